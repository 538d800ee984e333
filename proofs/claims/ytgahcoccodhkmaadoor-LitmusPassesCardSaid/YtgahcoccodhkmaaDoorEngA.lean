/- A part of the walks, and of the machine that proves them (EngA). -/
import Derived.WalkKit
import Derived.Maps.AppendAt
import Derived.ArgAppend
set_option linter.unusedVariables false
set_option linter.unusedSimpArgs false
namespace Go.Eng
open Go
inductive Cap where
  | ptr (j off : Nat)
  | v (x : Value)
inductive Cell where
  | v (x : Value)
  | ptr (j off : Nat)
  | pix (j base len : Nat) (i : Int)
  /-- A place in the element i of an array, in a row, of elements of m cells. -/
  | pxs (j base len m : Nat) (i : Int)
  | pro (k : Nat) (g : Nat → Cell)
  | pos (j k i t : Nat)
  | ro (n k : Nat) (tight : Bool) (g : Nat → Nat → Cell)
  | osl (j : Nat)
  /-- Of an owned slice of elements of k cells, those from a on, n of them, to its end. -/
  | osv (j k a n : Nat)
  | psl (j off n k : Nat)
  | mp (j : Nat)
  | fn (f : FuncId) (caps : List Cap)
  /-- A function that has its first arguments. -/
  | bfn (f : FuncId) (caps : List Cap)
  /-- A bool, whichever. -/
  | bq
  | any
inductive Sv where
  | c (x : Cell)
  | agg (l : List Cell)
inductive RV where
  | s (x : Sv)
  | tup (l : List Sv)
  | un
  | any
inductive Blk where
  | row (ty : TypeId) (cells : List Cell)
  | slc (ty : TypeId) (k n : Nat) (g : Nat → Nat → Cell)
  | fsl (k n : Nat) (g : Nat → Nat → Cell)
  | imap (f : Int → Option Int)
  | pmap (f : Int → Int → Option Int)
  | smap (f : ByteArray → Option Int)
  | gone
structure St where
  regs : List RV
  blks : List (Nat × Blk)
  next : Nat
abbrev Cell.int (k : IntKind) (x : Int) : Cell := .v (.int k x)
abbrev Cell.i (x : Int) : Cell := .v (.int .i64 x)
abbrev Cell.b (x : Bool) : Cell := .v (.bool x)
abbrev RV.i (x : Int) : RV := .s (.c (.v (.int .i64 x)))
abbrev RV.b (x : Bool) : RV := .s (.c (.v (.bool x)))
abbrev RV.c (x : Cell) : RV := .s (.c x)
abbrev RV.agg (l : List Cell) : RV := .s (.agg l)
/-- Both ways of a test. -/
def Br (t : Bool) (A B : Prop) : Prop := Bool.rec (motive := fun _ => Prop) B A t
theorem br_rec {t : Bool} {A B : Prop} (h1 : t = true → A) (h2 : t = false → B) : Bool.rec (motive := fun _ => Prop) B A t := by
  cases t
  · exact h2 rfl
  · exact h1 rfl
/-- A fact that is owed. -/
def Need (p A : Prop) : Prop := p ∧ A
def nthK {α : Type} : List α → Nat → (α → Prop) → Prop
  | [], _, _ => False
  | x :: _, 0, k => k x
  | _ :: l, n + 1, k => nthK l n k
def setK {α : Type} : List α → Nat → α → (List α → Prop) → Prop
  | [], _, _, _ => False
  | _ :: l, 0, v, k => k (v :: l)
  | x :: l, n + 1, v, k => setK l n v fun l' => k (x :: l')
def look : List (Nat × Blk) → Nat → Option Blk
  | [], _ => none
  | (i, b) :: r, j => if i = j then some b else look r j
def lookK : List (Nat × Blk) → Nat → (Blk → Prop) → Prop
  | [], _, _ => False
  | (i, b) :: r, j, k => match Nat.beq i j with
    | true => k b
    | false => lookK r j k
/-- b at the name j: in its place, or behind. -/
def putK : List (Nat × Blk) → Nat → Blk → (List (Nat × Blk) → Prop) → Prop
  | [], j, x, k => k [(j, x)]
  | (i, b) :: r, j, x, k => match Nat.beq i j with
    | true => k ((i, x) :: r)
    | false => putK r j x fun r' => k ((i, b) :: r')
def putsK : List (Nat × Blk) → List (Nat × Blk) → (List (Nat × Blk) → Prop) → Prop
  | l, [], k => k l
  | l, (j, b) :: r, k => putsK l r fun l' => putK l' j b k
/-- A small number laid open. -/
def litK : Nat → Nat → Nat → (Nat → Prop) → Prop
  | 0, _, n, k => k n
  | f + 1, m, n, k => match Nat.beq m n with
    | true => k m
    | false => litK f (Nat.succ m) n k
/-- A cell with its head laid open. -/
def cellK (c : Cell) (k : Cell → Prop) : Prop :=
  match c with
  | .v (.int q x) => k (.v (.int q x))
  | .v (.bool x) => k (.v (.bool x))
  | .v x => k (.v x)
  | .ro n q t g => k (.ro n q t g)
  | .osl j => k (.osl j)
  | .psl a b c d => k (.psl a b c d)
  | .osv a b c d => k (.osv a b c d)
  | .ptr j o => k (.ptr j o)
  | .pix a b c d => k (.pix a b c d)
  | .pxs a b c d e => k (.pxs a b c d e)
  | .pro q g => k (.pro q g)
  | .pos a b c d => k (.pos a b c d)
  | .mp j => k (.mp j)
  | .fn f l => k (.fn f l)
  | .bfn f l => k (.bfn f l)
  | .bq => k .bq
  | .any => k .any
def cellsK (g : Nat → Cell) : Nat → Nat → (List Cell → Prop) → Prop
  | _, 0, k => k []
  | i, n + 1, k => cellK (g i) fun c => cellsK g (i + 1) n fun l => k (c :: l)
/-- n cells of l from place i on. -/
def subK : List Cell → Nat → Nat → (List Cell → Prop) → Prop
  | _, 0, 0, k => k []
  | [], _, _, _ => False
  | _ :: l, i + 1, n, k => subK l i n k
  | c :: l, 0, n + 1, k => subK l 0 n fun r => k (c :: r)
/-- The cells v written over l from place i on. -/
def ovrK : List Cell → Nat → List Cell → (List Cell → Prop) → Prop
  | l, 0, [], k => k l
  | [], _, _, _ => False
  | x :: l, i + 1, vs, k => ovrK l i vs fun r => k (x :: r)
  | _ :: l, 0, v :: vs, k => ovrK l 0 vs fun r => k (v :: r)
def valsK : List Value → (List Cell → Prop) → Prop
  | [], k => k []
  | v :: l, k => match v.oneCell' with
    | true => valsK l fun r => k (.v v :: r)
    | false => False
def ofValueK (v : Value) (k : RV → Prop) : Prop :=
  match v with
  | .agg cs => valsK cs.toList fun l => k (.s (.agg l))
  | .tuple _ => False
  | v => k (.s (.c (.v v)))
def opK (regs : List RV) (x : Operand) (k : RV → Prop) : Prop :=
  match x with
  | .tmp t => nthK regs t k
  | .const v => ofValueK v k
  | .func f => k (.s (.c (.fn f [])))
  | .global _ => False
def opsK (regs : List RV) : List Operand → (List RV → Prop) → Prop
  | [], k => k []
  | x :: l, k => opK regs x fun v => opsK regs l fun r => k (v :: r)
def isAggT (P : Program) (t : TypeId) : Option Bool :=
  match P.underlying t with
  | some (.struct _) => some true
  | some (.array _ _) => some true
  | some _ => some false
  | none => none
def Sv.cells : Sv → List Cell
  | .c x => [x]
  | .agg l => l
/-- Does the cell name nothing? -/
def Cell.closed : Cell → Bool
  | .v _ => true
  | .ro _ _ _ _ => true
  | .pro _ _ => true
  | _ => false
def closedK : List Cell → Prop → Prop
  | [], k => k
  | c :: l, k => match c.closed with
    | true => closedK l k
    | false => False
def upd2 (g : Nat → Nat → Cell) (i t : Nat) (l : List Cell) : Nat → Nat → Cell :=
  fun i' t' => if i' = i ∧ t ≤ t' ∧ t' < t + l.length then l.getD (t' - t) .any else g i' t'
def catG (n : Nat) (g g2 : Nat → Nat → Cell) : Nat → Nat → Cell := fun i t => if i < n then g i t else g2 (i - n) t
/-- The numbers in n cells of l from place i on. -/
def intsK : List Cell → Nat → Nat → (List Int → Prop) → Prop
  | _, 0, 0, k => k []
  | [], _, _, _ => False
  | _ :: l, i + 1, n, k => intsK l i n k
  | c :: l, 0, n + 1, k => match c with
    | .v (.int .i64 x) => intsK l 0 n fun r => k (x :: r)
    | _ => False
/-- v put at place i (a number not known) of the cells from base on. -/
def setIntsK (i v : Int) : List Int → Nat → (List Cell → Prop) → Prop
  | [], _, k => k []
  | x :: l, m, k => setIntsK i v l (m + 1) fun r => k (.v (.int .i64 (if i = (m : Int) then v else x)) :: r)
def intOp (op : BinOp) (q : IntKind) (x y : Int) (k : Value → Prop) : Prop :=
  match op with
  | .add => k (.int q (q.wrap (x + y)))
  | .sub => k (.int q (q.wrap (x - y)))
  | .mul => k (.int q (q.wrap (x * y)))
  | .quo => Need (y ≠ 0) (k (.int q (q.wrap (x.tdiv y))))
  | .rem => Need (y ≠ 0) (k (.int q (x.tmod y)))
  | .eql => k (.bool (x == y))
  | .neq => k (.bool (x != y))
  | .lss => k (.bool (decide (x < y)))
  | .leq => k (.bool (decide (x ≤ y)))
  | .gtr => k (.bool (decide (x > y)))
  | .geq => k (.bool (decide (x ≥ y)))
  | .and => k (.int q (Go.bits .and q x y))
  | .or => k (.int q (Go.bits .or q x y))
  | .xor => k (.int q (Go.bits .xor q x y))
  | .andNot => k (.int q (Go.bits .andNot q x y))
  | .shl => False
  | .shr => False
def fieldK (P : Program) (t : TypeId) (f : Nat) (k : Field → Nat → Prop) : Prop :=
  match P.underlying t with
  | some (.struct fs) => match fs[f]? with
    | some x => match P.info? x.type with
      | some i => match Nat.beq i.size 0 with
        | true => False
        | false => k x i.size
      | none => False
    | none => False
  | _ => False
def sizeK (P : Program) (t : TypeId) (k : Nat → Prop) : Prop :=
  match P.info? t with
  | some i => k i.size
  | none => False
def zeroK (P : Program) (t : TypeId) (k : List Cell → Prop) : Prop :=
  match P.info? t with
  | some i => match i.zero with
    | some z => valsK z.cells.toList k
    | none => False
  | none => False
/-- What is told of a function: at each ghost, its arguments and blocks (named 0, 1, ..), its result, and the blocks behind. -/
structure FSpec where
  G : Type
  args : G → List RV
  blks : G → List (Nat × Blk)
  pre : G → Prop
  res : G → RV
  post : G → List (Nat × Blk)
  /-- Of a function that is ranged over: how many rounds, and what each is handed. -/
  yields : G → Option (Nat × (Nat → List Sv)) := fun _ => none
  /-- Of a function that panics: with what. -/
  panics : G → Option (List PanicEntry) := fun _ => none
  mayPan : Bool := false
/-- Names turned: a name below σ's length is σ's; another one lies behind nx. -/
def ren (σ : List Nat) (nx j : Nat) : Nat := if j < σ.length then σ.getD j 0 else nx + (j - σ.length)
def capRen (σ : List Nat) (nx : Nat) : Cap → Cap
  | .ptr j o => .ptr (ren σ nx j) o
  | .v x => .v x
def nmK (σ : List Nat) (nx j : Nat) (k : Nat → Prop) : Prop := litK 200 0 (ren σ nx j) k
def cellRen (σ : List Nat) (nx : Nat) (c : Cell) (k : Cell → Prop) : Prop :=
  cellK c fun c => match c with
  | .ptr j o => nmK σ nx j fun j => k (.ptr j o)
  | .pix a b c d => nmK σ nx a fun a => k (.pix a b c d)
  | .pxs a b c d e => nmK σ nx a fun a => k (.pxs a b c d e)
  | .pos a b c d => nmK σ nx a fun a => k (.pos a b c d)
  | .osl j => nmK σ nx j fun j => k (.osl j)
  | .psl a b c d => nmK σ nx a fun a => k (.psl a b c d)
  | .osv a b c d => nmK σ nx a fun a => k (.osv a b c d)
  | .mp j => nmK σ nx j fun j => k (.mp j)
  | .fn f l => k (.fn f (l.map (capRen σ nx)))
  | .bfn f l => k (.bfn f (l.map (capRen σ nx)))
  | c => k c
def cellsRen (σ : List Nat) (nx : Nat) : List Cell → (List Cell → Prop) → Prop
  | [], k => k []
  | c :: l, k => cellRen σ nx c fun c => cellsRen σ nx l fun r => k (c :: r)
def svRen (σ : List Nat) (nx : Nat) (x : Sv) (k : Sv → Prop) : Prop :=
  match x with
  | .c x => cellRen σ nx x fun c => k (.c c)
  | .agg l => cellsRen σ nx l fun l => k (.agg l)
def svsRen (σ : List Nat) (nx : Nat) : List Sv → (List Sv → Prop) → Prop
  | [], k => k []
  | c :: l, k => svRen σ nx c fun c => svsRen σ nx l fun r => k (c :: r)
def rvRen (σ : List Nat) (nx : Nat) (x : RV) (k : RV → Prop) : Prop :=
  match x with
  | .s x => svRen σ nx x fun c => k (.s c)
  | .tup l => svsRen σ nx l fun l => k (.tup l)
  | .un => k .un
  | .any => k .any
def blkRen (σ : List Nat) (nx : Nat) (x : Blk) (k : Blk → Prop) : Prop :=
  match x with
  | .row ty l => cellsRen σ nx l fun l => k (.row ty l)
  | .slc ty q n g => k (.slc ty q n g)
  | .fsl q n g => k (.fsl q n g)
  | .imap f => k (.imap f)
  | .pmap f => k (.pmap f)
  | .smap f => k (.smap f)
  | .gone => k .gone
def blksRen (σ : List Nat) (nx : Nat) : List (Nat × Blk) → (List (Nat × Blk) → Prop) → Prop
  | [], k => k []
  | (j, b) :: l, k => nmK σ nx j fun j => blkRen σ nx b fun b => blksRen σ nx l fun r => k ((j, b) :: r)
def capsEq (σ : List Nat) : List Cap → List Cap → Prop
  | [], [] => True
  | .ptr i o :: l, .ptr j o' :: l' => (σ[i]? = some j ∧ o = o') ∧ capsEq σ l l'
  | .v x :: l, .v y :: l' => x = y ∧ capsEq σ l l'
  | _, _ => False
/-- A cell that names nothing, as it is told, and the one that is there. -/
def cellEq0 : Cell → Cell → Prop
  | .any, .v _ => True
  | .any, .ro _ _ _ _ => True
  | .any, .pro _ _ => True
  | .v (.int q x), .v (.int q' y) => q = q' ∧ x = y
  | .v (.bool x), .v (.bool y) => x = y
  | .v x, .v y => x = y
  | .ro n k t g, .ro n' k' t' g' => n = n' ∧ k = k' ∧ (t = true → t' = true) ∧ ∀ i, i < n → ∀ t, t < k → g i t = g' i t
  | .pro k g, .pro k' g' => k = k' ∧ ∀ t, t < k → g t = g' t
  | _, _ => False
def proEqK (g : Nat → Cell) : Nat → List Cell → Prop
  | _, [] => True
  | t, c :: l => cellEq0 (g t) c ∧ proEqK g (t + 1) l
/-- The cell that is told, and the one that is there. -/
def cellEq (bs : List (Nat × Blk)) (σ : List Nat) : Cell → Cell → Prop
  | .any, _ => True
  | .v (.int q x), .v (.int q' y) => q = q' ∧ x = y
  | .v (.bool x), .v (.bool y) => x = y
  | .v x, .v y => x = y
  | .ro n k t g, .ro n' k' t' g' => n = n' ∧ k = k' ∧ (t = true → t' = true) ∧ ∀ i, i < n → ∀ t, t < k → g i t = g' i t
  | .ro n k t g, .osl j => t = false ∧ lookK bs j fun b => match b with
    | .slc _ k' n' g' => n = n' ∧ k = k' ∧ ∀ i, i < n → ∀ t, t < k → g i t = g' i t
    | .fsl k' n' g' => n = n' ∧ k = k' ∧ ∀ i, i < n → ∀ t, t < k → g i t = g' i t
    | _ => False
  | .ro n _ _ _, .v (.slice none 0 0) => n = 0
  | .pro k g, .pro k' g' => k = k' ∧ ∀ t, t < k → g t = g' t
  | .pro k g, .ptr j o => lookK bs j fun b => match b with
    | .row _ l => subK l o k fun r => proEqK g 0 r
    | _ => False
  | .ptr i o, .ptr j o' => σ[i]? = some j ∧ o = o'
  | .osl i, .osl j => σ[i]? = some j
  | .mp i, .mp j => σ[i]? = some j
  | .fn f l, .fn f' l' => f = f' ∧ capsEq σ l l'
  | .psl i o n k, .psl j o' n' k' => σ[i]? = some j ∧ o = o' ∧ n = n' ∧ k = k'
  | .bfn f l, .bfn f' l' => f = f' ∧ capsEq σ l l'
  | .osv i k a n, .osv j k' a' n' => σ[i]? = some j ∧ k = k' ∧ a = a' ∧ n = n'
  | _, _ => False
def cellsEq (bs : List (Nat × Blk)) (σ : List Nat) : List Cell → List Cell → Prop
  | [], [] => True
  | c :: l, c' :: l' => cellEq bs σ c c' ∧ cellsEq bs σ l l'
  | _, _ => False
def svEq (bs : List (Nat × Blk)) (σ : List Nat) : Sv → Sv → Prop
  | .c x, .c y => cellEq bs σ x y
  | .agg l, .agg l' => cellsEq bs σ l l'
  | _, _ => False
def svsEq (bs : List (Nat × Blk)) (σ : List Nat) : List Sv → List Sv → Prop
  | [], [] => True
  | c :: l, c' :: l' => svEq bs σ c c' ∧ svsEq bs σ l l'
  | _, _ => False
def rvEq (bs : List (Nat × Blk)) (σ : List Nat) : RV → RV → Prop
  | .any, _ => True
  | .s x, .s y => svEq bs σ x y
  | .tup l, .tup l' => svsEq bs σ l l'
  | .un, .un => True
  | _, _ => False
def rvsEq (bs : List (Nat × Blk)) (σ : List Nat) : List RV → List RV → Prop
  | [], [] => True
  | c :: l, c' :: l' => rvEq bs σ c c' ∧ rvsEq bs σ l l'
  | _, _ => False
def blkEq (σ : List Nat) : Blk → Blk → Prop
  | .row ty l, .row ty' l' => ty = ty' ∧ cellsEq [] σ l l'
  | .slc ty k n g, .slc ty' k' n' g' => ty = ty' ∧ k = k' ∧ n = n' ∧ ∀ i, i < n → ∀ t, t < k → g i t = g' i t
  | .fsl k n g, .fsl k' n' g' => k = k' ∧ n = n' ∧ ∀ i, i < n → ∀ t, t < k → g i t = g' i t
  | .imap f, .imap f' => ∀ a, f a = f' a
  | .pmap f, .pmap f' => ∀ a b, f a b = f' a b
  | .smap f, .smap f' => ∀ a, f a = f' a
  | .gone, _ => True
  | _, _ => False
/-- The blocks that are told, each at its name, are there. -/
def blksEq (bs : List (Nat × Blk)) (σ : List Nat) : List (Nat × Blk) → Prop
  | [] => True
  | (i, b) :: l => (nthK σ i fun j => lookK bs j fun b' => blkEq σ b b') ∧ blksEq bs σ l
/-- The names of slices of one's own that are lent where data to be read are asked. -/
def lentC : Cell → Cell → List Nat
  | .ro _ _ _ _, .osl j => [j]
  | .pro _ _, .ptr j _ => [j]
  | _, _ => []
def lentCs : List Cell → List Cell → List Nat
  | c :: l, c' :: l' => lentC c c' ++ lentCs l l'
  | _, _ => []
def lentS : Sv → Sv → List Nat
  | .c x, .c y => lentC x y
  | .agg l, .agg l' => lentCs l l'
  | _, _ => []
def lentT : List Sv → List Sv → List Nat
  | c :: l, c' :: l' => lentS c c' ++ lentT l l'
  | _, _ => []
def lentR : RV → RV → List Nat
  | .s x, .s y => lentS x y
  | .tup l, .tup l' => lentT l l'
  | _, _ => []
def lentRs : List RV → List RV → List Nat
  | c :: l, c' :: l' => lentR c c' ++ lentRs l l'
  | _, _ => []
def nodupB : List Nat → Bool
  | [] => true
  | x :: l => !l.contains x && nodupB l
def disjB (a b : List Nat) : Bool := a.all fun x => !b.contains x
def Cell.plain : Cell → Bool
  | .v _ => true
  | _ => false
def Sv.plain : Sv → Bool
  | .c x => x.plain
  | .agg l => l.all Cell.plain
def RV.plain : RV → Bool
  | .s x => x.plain
  | .tup l => l.all Sv.plain
  | .un => true
  | .any => false
/-- The cell at a place of a row that is told by a list. -/
def nthC : List Cell → Nat → Cell
  | [], _ => .any
  | c :: _, 0 => c
  | _ :: l, n + 1 => nthC l n
/-- The lent ones are from now on to be read alone. -/
def freezeK (bs : List (Nat × Blk)) : List Nat → (List (Nat × Blk) → List (Nat × Blk) → Prop) → Prop
  | [], k => k [] []
  | j :: l, k => lookK bs j fun b => match b with
    | .slc ty q n g => freezeK bs l fun a c => k ((j, .slc ty q n g) :: a) ((j, .fsl q n g) :: c)
    | .fsl q n g => freezeK bs l fun a c => k ((j, .fsl q n g) :: a) ((j, .fsl q n g) :: c)
    | .row ty r => freezeK bs l fun a c => k ((j, .row ty r) :: a) ((j, .gone) :: c)
    | _ => False
end Go.Eng
namespace Go.Eng
open Go
abbrev Names := Nat → Option Value
def noNames : Names := fun _ => none
abbrev Mem := Nat → Option Blk
def CapRel (hs : Names) : Cap → Value → Prop
  | .v x, u => u = x ∧ x.oneCell' = true
  | .ptr j off, u => ∃ b, hs j = some (.pointer (some ⟨b, 0, none⟩)) ∧ u = .pointer (some ⟨b, off, none⟩)
def Rel (O : Nat → Prop) (w : World) : Cell → Names → Value → Prop
  | .v x, _, u => u = x ∧ x.oneCell' = true
  | .ptr j off, hs, u => ∃ b, hs j = some (.pointer (some ⟨b, 0, none⟩)) ∧ u = .pointer (some ⟨b, off, none⟩)
  | .pxs j base len m i, hs, u => ∃ b, hs j = some (.pointer (some ⟨b, 0, none⟩)) ∧ 0 ≤ i ∧ i < len ∧ u = .pointer (some ⟨b, base + i.toNat * m, none⟩)
  | .pro k g, _, u => ∃ b off, u = .pointer (some ⟨b, off, none⟩) ∧ ¬ O b ∧ b < w.heap.size ∧
      ∀ t, t < k → ∃ x, w.cell? ⟨b, off + t, none⟩ = some x ∧ Rel O w (g t) noNames x
  | .pix j base len i, hs, u => ∃ b, hs j = some (.pointer (some ⟨b, 0, none⟩)) ∧ 0 ≤ i ∧ i < len ∧ u = .pointer (some ⟨b, base + i.toNat, none⟩)
  | .pos j k i t, hs, u => ∃ b n cap, hs j = some (.slice (some ⟨b, 0, none⟩) n cap) ∧ i < n ∧ u = .pointer (some ⟨b, i * k + t, none⟩)
  | .ro n k tight g, _, u => ∃ a cap, u = .slice a n cap ∧ n ≤ cap ∧ (tight = true → cap = n) ∧ (a = none → cap = 0) ∧
      (0 < n → ∃ b off, a = some ⟨b, off, none⟩ ∧ ¬ O b ∧ b < w.heap.size ∧
        ∀ i, i < n → ∀ t, t < k → ∃ x, w.cell? ⟨b, off + (i * k + t), none⟩ = some x ∧ Rel O w (g i t) noNames x)
  | .osl j, hs, u => hs j = some u ∧ ∃ a n c, u = .slice a n c
  | .osv j k a n, hs, u => ∃ b m cap, hs j = some (.slice (some ⟨b, 0, none⟩) m cap) ∧ a + n = m ∧ m ≤ cap ∧ u = .slice (some ⟨b, a * k, none⟩) n (cap - a)
  | .psl j off n k, hs, u => ∃ b cap, hs j = some (.pointer (some ⟨b, 0, none⟩)) ∧ n ≤ cap ∧ u = .slice (some ⟨b, off, none⟩) n cap
  | .mp j, hs, u => hs j = some u ∧ ∃ r, u = .map r
  | .fn f caps, hs, u => ∃ arr : Array Value, u = .func (.func f) #[] arr ∧ arr.size = caps.length ∧
      ∀ (i : Nat) (c : Cap) (x : Value), caps[i]? = some c → arr[i]? = some x → CapRel hs c x
  | .bfn f caps, hs, u => ∃ arr : Array Value, u = .func (.func f) arr #[] ∧ arr.size = caps.length ∧
      ∀ (i : Nat) (c : Cap) (x : Value), caps[i]? = some c → arr[i]? = some x → CapRel hs c x
  | .bq, _, u => ∃ b, u = .bool b
  | .any, _, u => u.oneCell' = true
def owner : Blk → Value → Option Nat
  | .row _ _, .pointer (some a) => some a.block
  | .slc _ _ _ _, .slice (some a) _ _ => some a.block
  | .imap _, .map r => r
  | .pmap _, .map r => r
  | .smap _, .map r => r
  | _, _ => none
def own (hs : Names) (B : Mem) (x : Nat) : Prop := ∃ j b h, B j = some b ∧ hs j = some h ∧ owner b h = some x
def Osum (F : Nat → Prop) (hs : Names) (B : Mem) (x : Nat) : Prop := F x ∨ own hs B x
def lookE : List MapEntry → Int → Option Int
  | [], _ => none
  | e :: r, a => match e.key, e.val with
    | .int _ b, .int _ c => if a = b then some c else lookE r a
    | _, _ => lookE r a
def AllInt (es : List MapEntry) : Prop := ∀ e ∈ es, ∃ a c, e.key = .int .i64 a ∧ e.val = .int .i64 c
/-- The entries of a map of ints read as f. -/
def IMap (es : Array MapEntry) (f : Int → Option Int) : Prop := AllInt es.toList ∧ ∀ a, f a = lookE es.toList a
/-- A key of two numbers. -/
def pairV (a b : Int) : Value := .agg #[.int .i64 a, .int .i64 b]
def keyI (v : Value) : Int × Int :=
  match v with
  | .agg cs => match cs.toList with
    | [.int _ x, .int _ y] => (x, y)
    | _ => (0, 0)
  | _ => (0, 0)
def valI1 (v : Value) : Int :=
  match v with
  | .int _ c => c
  | _ => 0
def lookP : List MapEntry → Int → Int → Option Int
  | [], _, _ => none
  | e :: r, a, b => if (a, b) = keyI e.key then some (valI1 e.val) else lookP r a b
def AllPair (es : List MapEntry) : Prop := ∀ e ∈ es, ∃ a b c, e.key = pairV a b ∧ e.val = .int .i64 c
/-- The entries of a map of pairs read as f. -/
def PMap (es : Array MapEntry) (f : Int → Int → Option Int) : Prop := AllPair es.toList ∧ ∀ a b, f a b = lookP es.toList a b
def strI (v : Value) : ByteArray :=
  match v with
  | .string b => b
  | _ => ByteArray.empty
def lookS : List MapEntry → ByteArray → Option Int
  | [], _ => none
  | e :: r, a => if (a == strI e.key) = true then some (valI1 e.val) else lookS r a
def AllStr (es : List MapEntry) : Prop := ∀ e ∈ es, ∃ a c, e.key = .string a ∧ e.val = .int .i64 c
/-- The entries of a map of strings read as f. -/
def SMap (es : Array MapEntry) (f : ByteArray → Option Int) : Prop := AllStr es.toList ∧ ∀ a, f a = lookS es.toList a
def BlkRel (O : Nat → Prop) (w : World) (hs : Names) : Blk → Value → Prop
  | .row ty cells, h => ∃ (x : Nat) (cs : Array Value), h = .pointer (some ⟨x, 0, none⟩) ∧ w.heap[x]? = some (.cells cs ty (0, 0)) ∧ cs.size = cells.length ∧
      ∀ (i : Nat) (c : Cell) (u : Value), cells[i]? = some c → cs[i]? = some u → Rel O w c hs u
  | .slc ty k n g, h => (h = .slice none 0 0 ∧ n = 0) ∨ ∃ (x cap : Nat) (cs : Array Value), h = .slice (some ⟨x, 0, none⟩) n cap ∧ n ≤ cap ∧ cap ≤ maxLen ∧
      w.heap[x]? = some (.cells cs ty (0, 0)) ∧ cs.size = cap * k ∧ ∀ i, i < n → ∀ t, t < k → ∀ u, cs[i * k + t]? = some u → Rel O w (g i t) noNames u
  | .fsl k n g, h => Rel O w (.ro n k false g) noNames h
  | .imap f, h => ∃ r es clk, h = .map (some r) ∧ w.heap[r]? = some (.map es clk) ∧ IMap es f
  | .pmap f, h => ∃ r es clk, h = .map (some r) ∧ w.heap[r]? = some (.map es clk) ∧ PMap es f
  | .smap f, h => ∃ r es clk, h = .map (some r) ∧ w.heap[r]? = some (.map es clk) ∧ SMap es f
  | .gone, _ => True
structure WRep (F : Nat → Prop) (hs : Names) (B : Mem) (w : World) : Prop where
  blk : ∀ j b, B j = some b → ∃ h, hs j = some h ∧ BlkRel (Osum F hs B) w hs b h
  sep : ∀ i j bi bj hi hj x, B i = some bi → B j = some bj → hs i = some hi → hs j = some hj → owner bi hi = some x → owner bj hj = some x → i = j
  lt : ∀ x, F x → x < w.heap.size
  apart : ∀ x, F x → ¬ own hs B x
/-- From w to w' only blocks of O have turned. -/
structure Fr (O : Nat → Prop) (w w' : World) : Prop where
  os : w'.os = w.os
  tape : w'.tape = w.tape
  output : w'.output = w.output
  size : w.heap.size ≤ w'.heap.size
  block : ∀ x, x < w.heap.size → ¬ O x → w'.heap[x]? = w.heap[x]?
theorem Fr.refl (O : Nat → Prop) (w : World) : Fr O w w := ⟨rfl, rfl, rfl, Nat.le_refl _, fun _ _ _ => rfl⟩
theorem Fr.mono {O O' : Nat → Prop} {w w' : World} (h : Fr O w w') (ho : ∀ x, x < w.heap.size → O x → O' x) : Fr O' w w' :=
  ⟨h.os, h.tape, h.output, h.size, fun x hx hn => h.block x hx fun h' => hn (ho x hx h')⟩
theorem Fr.trans {O O' : Nat → Prop} {a b c : World} (h : Fr O a b) (k : Fr O' b c) (ho : ∀ x, O' x → O x ∨ a.heap.size ≤ x) : Fr O a c :=
  ⟨k.os.trans h.os, k.tape.trans h.tape, k.output.trans h.output, Nat.le_trans h.size k.size, fun x hx hn =>
    (k.block x (Nat.lt_of_lt_of_le hx h.size) fun h' => (ho x h').elim hn fun h2 => by omega).trans (h.block x hx hn)⟩
theorem cell_of_heap {w w' : World} {b : Nat} (h : w'.heap[b]? = w.heap[b]?) (o : Nat) : w'.cell? ⟨b, o, none⟩ = w.cell? ⟨b, o, none⟩ := by
  simp [World.cell?, h]
theorem CapRel.mono {hs hs' : Names} (he : ∀ j h, hs j = some h → hs' j = some h) {c : Cap} {u : Value} (h : CapRel hs c u) : CapRel hs' c u := by
  cases c with
  | v x => exact h
  | ptr j off => obtain ⟨b, hb, hu⟩ := h; exact ⟨b, he _ _ hb, hu⟩
/-- A cell's meaning lives on. -/
theorem Rel.mono {O O' : Nat → Prop} {w w' : World} (hs2 : w.heap.size ≤ w'.heap.size)
    (hb : ∀ x, x < w.heap.size → ¬ O x → w'.heap[x]? = w.heap[x]?) (ho : ∀ x, O' x → O x ∨ w.heap.size ≤ x) :
    ∀ (c : Cell) (hs hs' : Names) (u : Value), (∀ j h, hs j = some h → hs' j = some h) → Rel O w c hs u → Rel O' w' c hs' u
  | .v x, _, _, _, _, h => h
  | .ptr j off, _, _, _, he, h => by obtain ⟨b, h1, h2⟩ := h; exact ⟨b, he _ _ h1, h2⟩
  | .pro k g, hs, hs', u, _, h => by
    obtain ⟨b, off, h1, h2, h3, h4⟩ := h
    refine ⟨b, off, h1, fun h => (ho b h).elim h2 (by omega), by omega, fun t ht => ?_⟩
    obtain ⟨x, h5, h6⟩ := h4 t ht
    exact ⟨x, (cell_of_heap (hb b h3 h2) _).trans h5, Rel.mono hs2 hb ho (g t) _ _ _ (fun _ _ h => h) h6⟩
  | .pix j base len i, _, _, _, he, h => by obtain ⟨b, h1, h2⟩ := h; exact ⟨b, he _ _ h1, h2⟩
  | .pxs j base len m i, _, _, _, he, h => by obtain ⟨b, h1, h2⟩ := h; exact ⟨b, he _ _ h1, h2⟩
  | .pos j k i t, _, _, _, he, h => by obtain ⟨b, n, cap, h1, h2⟩ := h; exact ⟨b, n, cap, he _ _ h1, h2⟩
  | .ro n k tight g, hs, hs', u, _, h => by
    obtain ⟨a, cap, h1, h2, h3, h3', h4⟩ := h
    refine ⟨a, cap, h1, h2, h3, h3', fun hn => ?_⟩
    obtain ⟨b, off, h5, h6, h7, h8⟩ := h4 hn
    refine ⟨b, off, h5, fun h => (ho b h).elim h6 (by omega), by omega, fun i hi t ht => ?_⟩
    obtain ⟨x, h9, h10⟩ := h8 i hi t ht
    exact ⟨x, (cell_of_heap (hb b h7 h6) _).trans h9, Rel.mono hs2 hb ho (g i t) _ _ _ (fun _ _ h => h) h10⟩
  | .osl j, _, _, _, he, h => ⟨he _ _ h.1, h.2⟩
  | .psl j off n k, _, _, _, he, h => by obtain ⟨b, cap, h1, h2⟩ := h; exact ⟨b, cap, he _ _ h1, h2⟩
  | .osv j k a n, _, _, _, he, h => by obtain ⟨b, m, cap, h1, h2⟩ := h; exact ⟨b, m, cap, he _ _ h1, h2⟩
  | .mp j, _, _, _, he, h => ⟨he _ _ h.1, h.2⟩
  | .fn f caps, _, _, _, he, h => by
    obtain ⟨arr, h1, h2, h3⟩ := h
    exact ⟨arr, h1, h2, fun i c x hc hx => (h3 i c x hc hx).mono he⟩
  | .bfn f caps, _, _, _, he, h => by
    obtain ⟨arr, h1, h2, h3⟩ := h
    exact ⟨arr, h1, h2, fun i c x hc hx => (h3 i c x hc hx).mono he⟩
  | .bq, _, _, _, _, h => h
  | .any, _, _, _, _, h => h
theorem rel_one {O : Nat → Prop} {w : World} {c : Cell} {hs : Names} {u : Value} (h : Rel O w c hs u) : u.oneCell' = true := by
  cases c with
  | v y => obtain ⟨rfl, h⟩ := h; exact h
  | any => exact h
  | bq => obtain ⟨b, rfl⟩ := h; rfl
  | ptr j off => obtain ⟨b, _, rfl⟩ := h; rfl
  | pix a b c d => obtain ⟨b, _, _, _, rfl⟩ := h; rfl
  | pxs a b c d e => obtain ⟨b, _, _, _, rfl⟩ := h; rfl
  | pro k g => obtain ⟨b, off, rfl, _⟩ := h; rfl
  | pos a b c d => obtain ⟨b, n, cap, _, _, rfl⟩ := h; rfl
  | ro n k t g => obtain ⟨a, cap, rfl, _⟩ := h; rfl
  | psl a b c d => obtain ⟨b, cap, _, _, rfl⟩ := h; rfl
  | osv a b c d => obtain ⟨b, m, cap, _, _, _, rfl⟩ := h; rfl
  | fn f caps => obtain ⟨arr, rfl, _⟩ := h; rfl
  | bfn f caps => obtain ⟨arr, rfl, _⟩ := h; rfl
  | osl j => obtain ⟨_, a, n, cc, rfl⟩ := h; rfl
  | mp j => obtain ⟨_, r, rfl⟩ := h; rfl
theorem one_cells {u : Value} (h : u.oneCell' = true) : u.cells = #[u] := by
  cases u <;> first | rfl | cases h
def SvRel (O : Nat → Prop) (w : World) (x : Sv) (hs : Names) (u : Value) : Prop :=
  match x with
  | .c x => Rel O w x hs u
  | .agg l => ∃ cs, u = .agg cs ∧ cs.size = l.length ∧ ∀ (i : Nat) (c : Cell) (v : Value), l[i]? = some c → cs[i]? = some v → Rel O w c hs v
def RVRel (O : Nat → Prop) (w : World) (x : RV) (hs : Names) (u : Value) : Prop :=
  match x with
  | .s x => SvRel O w x hs u
  | .un => u = undef
  | .any => True
  | .tup l => ∃ vs, u = .tuple vs ∧ vs.size = l.length ∧ ∀ (i : Nat) (c : Sv) (v : Value), l[i]? = some c → vs[i]? = some v → SvRel O w c hs v
section
variable {O O' : Nat → Prop} {w w' : World} {hs hs' : Names}
theorem SvRel.mono (hs2 : w.heap.size ≤ w'.heap.size) (hb : ∀ x, x < w.heap.size → ¬ O x → w'.heap[x]? = w.heap[x]?) (ho : ∀ x, O' x → O x ∨ w.heap.size ≤ x)
    (he : ∀ j h, hs j = some h → hs' j = some h) {x : Sv} {u : Value} (h : SvRel O w x hs u) : SvRel O' w' x hs' u := by
  cases x with
  | c x => exact Rel.mono hs2 hb ho x _ _ _ he h
  | agg l =>
    obtain ⟨cs, h1, h2, h3⟩ := h
    exact ⟨cs, h1, h2, fun i c v hc hv => Rel.mono hs2 hb ho c _ _ _ he (h3 i c v hc hv)⟩
theorem RVRel.mono (hs2 : w.heap.size ≤ w'.heap.size) (hb : ∀ x, x < w.heap.size → ¬ O x → w'.heap[x]? = w.heap[x]?) (ho : ∀ x, O' x → O x ∨ w.heap.size ≤ x)
    (he : ∀ j h, hs j = some h → hs' j = some h) {x : RV} {u : Value} (h : RVRel O w x hs u) : RVRel O' w' x hs' u := by
  cases x with
  | s x => exact SvRel.mono hs2 hb ho he h
  | un => exact h
  | any => trivial
  | tup l =>
    obtain ⟨cs, h1, h2, h3⟩ := h
    exact ⟨cs, h1, h2, fun i c v hc hv => SvRel.mono hs2 hb ho he (h3 i c v hc hv)⟩
theorem BlkRel.mono (hs2 : w.heap.size ≤ w'.heap.size) (hb : ∀ x, x < w.heap.size → ¬ O x → w'.heap[x]? = w.heap[x]?) (ho : ∀ x, O' x → O x ∨ w.heap.size ≤ x)
    (he : ∀ j h, hs j = some h → hs' j = some h) {b : Blk} {v : Value} (hown : ∀ x, owner b v = some x → w'.heap[x]? = w.heap[x]?) (h : BlkRel O w hs b v) : BlkRel O' w' hs' b v := by
  cases b with
  | row ty cells =>
    obtain ⟨x, cs, h1, h2, h3, h4⟩ := h
    subst h1
    exact ⟨x, cs, rfl, (hown x rfl).trans h2, h3, fun i c u hc hu => Rel.mono hs2 hb ho c _ _ _ he (h4 i c u hc hu)⟩
  | slc ty k n g =>
    rcases h with h | ⟨x, cap, cs, h1, h2, h2', h3, h4, h5⟩
    · exact .inl h
    · subst h1
      exact .inr ⟨x, cap, cs, rfl, h2, h2', (hown x rfl).trans h3, h4, fun i hi t ht u hu => Rel.mono hs2 hb ho _ _ _ _ (fun _ _ h => h) (h5 i hi t ht u hu)⟩
  | fsl k n g => exact Rel.mono hs2 hb ho _ _ _ _ (fun _ _ h => h) h
  | imap f =>
    obtain ⟨r, es, clk, h1, h2, h3⟩ := h
    subst h1
    exact ⟨r, es, clk, rfl, (hown r rfl).trans h2, h3⟩
  | pmap f =>
    obtain ⟨r, es, clk, h1, h2, h3⟩ := h
    subst h1
    exact ⟨r, es, clk, rfl, (hown r rfl).trans h2, h3⟩
  | smap f =>
    obtain ⟨r, es, clk, h1, h2, h3⟩ := h
    subst h1
    exact ⟨r, es, clk, rfl, (hown r rfl).trans h2, h3⟩
  | gone => trivial
end
/-- B is a part of C. -/
def Sub (B C : Mem) : Prop := ∀ j b, B j = some b → C j = some b
/-- What the part B has become, and the rest of C. -/
def joinM (C B B' : Mem) : Mem := fun j => match B' j with
  | some b => some b
  | none => match B j with
    | some _ => none
    | none => C j
/-- What one operation leaves. -/
def Post (F : Nat → Prop) (hs : Names) (B : Mem) (w : World) (rv : RV) (B' : Mem) (nx nx' : Nat) (v : Value) (w' : World) : Prop :=
  ∃ hs' : Names, RVRel (Osum F hs' B') w' rv hs' v ∧ WRep F hs' B' w' ∧ (∀ j h, hs j = some h → hs' j = some h) ∧ (∀ j, ¬ (nx ≤ j ∧ j < nx') → hs' j = hs j) ∧
    Fr (own hs B) w w' ∧ ∀ x, own hs' B' x → own hs B x ∨ w.heap.size ≤ x
theorem own_lt {F : Nat → Prop} {hs : Names} {B : Mem} {w : World} (h : WRep F hs B w) {x : Nat} (hx : own hs B x) : x < w.heap.size := by
  obtain ⟨j, b, v, hb, hv, ho⟩ := hx
  obtain ⟨v', hv', hr⟩ := h.blk j b hb
  rw [hv] at hv'; cases hv'
  cases b with
  | row ty cells =>
    obtain ⟨y, cs, h1, h2, _⟩ := hr
    subst h1
    simp [owner] at ho; subst ho
    exact (Array.getElem?_eq_some_iff.1 h2).1
  | slc ty k n g =>
    rcases hr with ⟨h1, _⟩ | ⟨y, cap, cs, h1, _, _, h3, _⟩
    · subst h1; simp [owner] at ho
    · subst h1; simp [owner] at ho; subst ho
      exact (Array.getElem?_eq_some_iff.1 h3).1
  | fsl k n g => simp [owner] at ho
  | imap f =>
    obtain ⟨r, es, clk, h1, h2, _⟩ := hr
    subst h1; simp [owner] at ho; subst ho
    exact (Array.getElem?_eq_some_iff.1 h2).1
  | pmap f =>
    obtain ⟨r, es, clk, h1, h2, _⟩ := hr
    subst h1; simp [owner] at ho; subst ho
    exact (Array.getElem?_eq_some_iff.1 h2).1
  | smap f =>
    obtain ⟨r, es, clk, h1, h2, _⟩ := hr
    subst h1; simp [owner] at ho; subst ho
    exact (Array.getElem?_eq_some_iff.1 h2).1
  | gone => simp [owner] at ho
/-- **The frame rule.** -/
theorem post_frame {F : Nat → Prop} {hs : Names} {B C : Mem} {w : World} {rv : RV} {B' : Mem} {nx nx' : Nat} {v : Value} {w' : World}
    (hsub : Sub B C) (hC : WRep F hs C w) (hnew : ∀ j b, B' j = some b → (∃ b0, B j = some b0) ∨ C j = none)
    (h : Post (fun x => F x ∨ own hs (fun j => match B j with | some _ => none | none => C j) x) hs B w rv B' nx nx' v w') :
    Post F hs C w rv (joinM C B B') nx nx' v w' := by
  obtain ⟨hs', h1, h2, h3, h4, h5, h6⟩ := h
  have hrest : ∀ j b, (match B j with | some _ => (none : Option Blk) | none => C j) = some b → B j = none ∧ C j = some b := by
    intro j b hj
    cases hB : B j with
    | some _ => rw [hB] at hj; cases hj
    | none => rw [hB] at hj; exact ⟨rfl, hj⟩
  have hdis : ∀ j b, B j = none → C j = some b → B' j = none := by
    intro j b hB hCj
    cases hB' : B' j with
    | none => rfl
    | some b' => rcases hnew j b' hB' with ⟨b0, h0⟩ | h0 <;> simp_all
  have hnames : ∀ j b, C j = some b → ∃ h, hs j = some h := fun j b hj => by obtain ⟨h, hh, _⟩ := hC.blk j b hj; exact ⟨h, hh⟩
  have hownrest : ∀ x, own hs' (fun j => match B j with | some _ => none | none => C j) x ↔ own hs (fun j => match B j with | some _ => none | none => C j) x := by
    intro x
    constructor
    · rintro ⟨j, b, u, hb, hu, ho⟩
      obtain ⟨hn, hc⟩ := hrest j b hb
      obtain ⟨u0, hu0⟩ := hnames j b hc
      have := h3 j u0 hu0
      rw [hu] at this; cases this
      exact ⟨j, b, u, hb, hu0, ho⟩
    · rintro ⟨j, b, u, hb, hu, ho⟩
      exact ⟨j, b, u, hb, h3 j u hu, ho⟩
  have hO : ∀ x, Osum F hs' (joinM C B B') x ↔ Osum (fun x => F x ∨ own hs (fun j => match B j with | some _ => none | none => C j) x) hs' B' x := by
    intro x
    constructor
    · rintro (hx | ⟨j, b, u, hb, hu, ho⟩)
      · exact .inl (.inl hx)
      · unfold joinM at hb
        cases hB' : B' j with
        | some b' => rw [hB'] at hb; cases hb; exact .inr ⟨j, _, u, hB', hu, ho⟩
        | none => rw [hB'] at hb; exact .inl (.inr ((hownrest x).1 ⟨j, b, u, hb, hu, ho⟩))
    · rintro ((hx | hx) | ⟨j, b, u, hb, hu, ho⟩)
      · exact .inl hx
      · obtain ⟨j, b, u, hb, hu, ho⟩ := (hownrest x).2 hx
        obtain ⟨hn, hc⟩ := hrest j b hb
        refine .inr ⟨j, b, u, ?_, hu, ho⟩
        simp [joinM, hdis j b hn hc, hn, hc]
      · refine .inr ⟨j, b, u, ?_, hu, ho⟩
        simp [joinM, hb]
  have hO0 : ∀ x, Osum F hs C x ↔ Osum (fun x => F x ∨ own hs (fun j => match B j with | some _ => none | none => C j) x) hs B x := by
    intro x
    constructor
    · rintro (hx | ⟨j, b, u, hb, hu, ho⟩)
      · exact .inl (.inl hx)
      · cases hB : B j with
        | some b0 =>
          have := hsub j b0 hB
          rw [hb] at this; cases this
          exact .inr ⟨j, b, u, hB, hu, ho⟩
        | none => exact .inl (.inr ⟨j, b, u, by simp [hB, hb], hu, ho⟩)
    · rintro ((hx | hx) | ⟨j, b, u, hb, hu, ho⟩)
      · exact .inl hx
      · obtain ⟨j, b, u, hb, hu, ho⟩ := hx
        obtain ⟨hn, hc⟩ := hrest j b hb
        exact .inr ⟨j, b, u, hc, hu, ho⟩
      · exact .inr ⟨j, b, u, hsub j b hb, hu, ho⟩
  have hOeq : Osum F hs' (joinM C B B') = Osum (fun x => F x ∨ own hs (fun j => match B j with | some _ => none | none => C j) x) hs' B' := funext fun x => propext (hO x)
  have hnotB : ∀ j b u x, B j = none → C j = some b → hs j = some u → owner b u = some x → ¬ own hs B x := by
    rintro j b u x hn hc hu ho ⟨i, bi, ui, hbi, hui, hoi⟩
    have := hC.sep i j bi b ui u x (hsub i bi hbi) hc hui hu hoi ho
    subst this
    rw [hn] at hbi; cases hbi
  have hOmono : ∀ x, Osum F hs' (joinM C B B') x → Osum F hs C x ∨ w.heap.size ≤ x := by
    intro x hx
    rcases (hO x).1 hx with hx | hx
    · rcases hx with hx | ⟨j, b, u, hb, hu, ho⟩
      · exact .inl (.inl hx)
      · exact .inl (.inr ⟨j, b, u, (hrest j b hb).2, hu, ho⟩)
    · rcases h6 x hx with ⟨j, b, u, hb, hu, ho⟩ | h
      · exact .inl (.inr ⟨j, b, u, hsub j b hb, hu, ho⟩)
      · exact .inr h
  have hunch : ∀ x, x < w.heap.size → ¬ Osum F hs C x → w'.heap[x]? = w.heap[x]? := by
    intro x hx hn
    refine h5.block x hx ?_
    rintro ⟨j, b, u, hb, hu, ho⟩
    exact hn (.inr ⟨j, b, u, hsub j b hb, hu, ho⟩)
  refine ⟨hs', ?_, ⟨?_, ?_, ?_, ?_⟩, h3, h4, ?_, ?_⟩
  · rw [hOeq]; exact h1
  · intro j b hj
    unfold joinM at hj
    cases hB' : B' j with
    | some b' =>
      rw [hB'] at hj; cases hj
      obtain ⟨u, hu, hr⟩ := h2.blk j _ hB'
      exact ⟨u, hu, by rw [hOeq]; exact hr⟩
    | none =>
      rw [hB'] at hj
      obtain ⟨hn, hc⟩ := hrest j b hj
      obtain ⟨u, hu, hr⟩ := hC.blk j b hc
      refine ⟨u, h3 j u hu, BlkRel.mono h5.size hunch hOmono h3 (fun x hx => ?_) hr⟩
      have hlt : x < w.heap.size := own_lt hC ⟨j, b, u, hc, hu, hx⟩
      exact h5.block x hlt (hnotB j b u x hn hc hu hx)
  · intro i j bi bj ui uj x hbi hbj hui huj hoi hoj
    unfold joinM at hbi hbj
    cases hBi : B' i with
    | some b' =>
      rw [hBi] at hbi; cases hbi
      cases hBj : B' j with
      | some b'' =>
        rw [hBj] at hbj; cases hbj
        exact h2.sep i j _ _ ui uj x hBi hBj hui huj hoi hoj
      | none =>
        rw [hBj] at hbj
        exact (h2.apart x (.inr ((hownrest x).1 ⟨j, bj, uj, hbj, huj, hoj⟩)) ⟨i, _, ui, hBi, hui, hoi⟩).elim
    | none =>
      rw [hBi] at hbi
      cases hBj : B' j with
      | some b'' =>
        rw [hBj] at hbj; cases hbj
        exact (h2.apart x (.inr ((hownrest x).1 ⟨i, bi, ui, hbi, hui, hoi⟩)) ⟨j, _, uj, hBj, huj, hoj⟩).elim
      | none =>
        rw [hBj] at hbj
        obtain ⟨hn, hc⟩ := hrest i bi hbi
        obtain ⟨hn', hc'⟩ := hrest j bj hbj
        obtain ⟨v1, hv1⟩ := hnames i bi hc
        obtain ⟨v2, hv2⟩ := hnames j bj hc'
        have e1 := h3 i v1 hv1; rw [hui] at e1; cases e1
        have e2 := h3 j v2 hv2; rw [huj] at e2; cases e2
        exact hC.sep i j bi bj ui uj x hc hc' hv1 hv2 hoi hoj
  · exact fun x hx => Nat.lt_of_lt_of_le (hC.lt x hx) h5.size
  · rintro x hx ⟨j, b, u, hb, hu, ho⟩
    unfold joinM at hb
    cases hB' : B' j with
    | some b' =>
      rw [hB'] at hb; cases hb
      exact h2.apart x (.inl hx) ⟨j, _, u, hB', hu, ho⟩
    | none =>
      rw [hB'] at hb
      obtain ⟨j', b', u', hb', hu', ho'⟩ := (hownrest x).1 ⟨j, b, u, hb, hu, ho⟩
      obtain ⟨hn, hc⟩ := hrest j' b' hb'
      exact hC.apart x hx ⟨j', b', u', hc, hu', ho'⟩
  · refine h5.mono fun x _ hx => ?_
    obtain ⟨j, b, u, hb, hu, ho⟩ := hx
    exact ⟨j, b, u, hsub j b hb, hu, ho⟩
  · rintro x ⟨j, b, u, hb, hu, ho⟩
    unfold joinM at hb
    cases hB' : B' j with
    | some b' =>
      rw [hB'] at hb; cases hb
      rcases h6 x ⟨j, _, u, hB', hu, ho⟩ with ⟨j', b', u', hb', hu', ho'⟩ | h
      · exact .inl ⟨j', b', u', hsub j' b' hb', hu', ho'⟩
      · exact .inr h
    | none =>
      rw [hB'] at hb
      obtain ⟨j', b', u', hb', hu', ho'⟩ := (hownrest x).1 ⟨j, b, u, hb, hu, ho⟩
      exact .inl ⟨j', b', u', (hrest j' b' hb').2, hu', ho'⟩
end Go.Eng
namespace Go.Eng
open Go
/-- What an operation tells: the value; the blocks that it read; those that it turned, as they were; what they are now, and new ones; the next free name. -/
abbrev Kont := RV → List (Nat × Blk) → List (Nat × Blk) → List (Nat × Blk) → Nat → Prop
def allIntB : List Cell → Nat → Nat → Bool
  | _, 0, 0 => true
  | [], _, _ => false
  | _ :: l, i + 1, n => allIntB l i n
  | c :: l, 0, n + 1 => match c with
    | .v (.int .i64 _) => allIntB l 0 n
    | _ => false
/-- Each of n cells from place i on, where the number is its place. -/
def pickAll : List Cell → Nat → Nat → Nat → Int → (Cell → Prop) → Prop
  | _, 0, 0, _, _, _ => True
  | [], _, _, _, _, _ => False
  | _ :: l, i + 1, n, m, x, k => pickAll l i n m x k
  | c :: l, 0, n + 1, m, x, k => (x = m → k c) ∧ pickAll l 0 n (m + 1) x k
/-- The strings in each of n elements of m cells, from place i on. -/
def strsK (l : List Cell) (m : Nat) : Nat → Nat → (List ByteArray → Prop) → Prop
  | 0, _, k => k []
  | n + 1, i, k => nthK l i fun c => match c with
    | .v (.string s) => litK 400 0 (i + m) fun i' => strsK l m n i' fun r => k (s :: r)
    | _ => False
@[irreducible] def strLen (s : ByteArray) : Nat := s.size
theorem strLen_eq (s : ByteArray) : strLen s = s.size := by unfold strLen; rfl
/-- A part of a string. -/
@[irreducible] def strCut (s : ByteArray) (a b : Int) : ByteArray := s.extract a.toNat b.toNat
/-- A string's bytes, as elements. -/
def strG (s : ByteArray) (i _ : Nat) : Cell := .v (.int .u8 ((s.data.toList.getD i 0).toNat : Nat))
def isByte (i : TypeInfo) : Bool :=
  match i.zero with
  | some (.int .u8 (.ofNat 0)) => Nat.beq i.size 1 && Nat.beq i.bytes 1
  | _ => false
/-- What bytes are as a string. -/
structure StrP (n : Nat) (g : Nat → Nat → Cell) (k : ByteArray → Prop) : Prop where
  ex : ∃ s : ByteArray, n = strLen s ∧ (∀ i, i < n → g i 0 = strG s i 0) ∧ k s
theorem StrP.at {n : Nat} {g : Nat → Nat → Cell} {k : ByteArray → Prop} (s : ByteArray) (hn : n = strLen s) (hg : ∀ i, i < n → g i 0 = strG s i 0) (h : k s) : StrP n g k := ⟨s, hn, hg, h⟩
@[irreducible] def strAt (s : ByteArray) (i : Nat) : Int := ((s.data.getD i 0).toNat : Int)
@[irreducible] def strEq (a b : ByteArray) : Bool := a.toList == b.toList

def loadK (P : Program) (bs : List (Nat × Blk)) (t : TypeId) (va : RV) (k : RV → List (Nat × Blk) → Prop) : Prop :=
  match isAggT P t, va with
  | some true, .s (.c (.ptr j off)) => sizeK P t fun n => lookK bs j fun b => match b with
    | .row ty l => subK l off n fun r => k (.s (.agg r)) [(j, .row ty l)]
    | _ => False
  | some false, .s (.c (.ptr j off)) => lookK bs j fun b => match b with
    | .row ty l => nthK l off fun c => k (.s (.c c)) [(j, .row ty l)]
    | _ => False
  | some false, .s (.c (.pix j base len i)) => lookK bs j fun b => match b with
    | .row ty l => match allIntB l base len with
      | true => intsK l base len fun xs => k (.s (.c (.v (.int .i64 (xs.getD i.toNat 0))))) [(j, .row ty l)]
      | false => Need (0 ≤ i ∧ i < len) (pickAll l base len 0 i fun c => k (.s (.c c)) [(j, .row ty l)])
    | _ => False
  | some false, .s (.c (.pxs j base len m i)) => lookK bs j fun b => match b with
    | .row ty l => strsK l m len base fun ss => k (.s (.c (.v (.string (ss.getD i.toNat ByteArray.empty))))) [(j, .row ty l)]
    | _ => False
  | some true, .s (.c (.pro q g)) => sizeK P t fun n => match Nat.ble n q with
    | true => cellsK g 0 n fun r => k (.s (.agg r)) []
    | false => False
  | some false, .s (.c (.pro q g)) => match Nat.ble 1 q with
    | true => cellK (g 0) fun c => k (.s (.c c)) []
    | false => False
  | some true, .s (.c (.pos j q i t0)) => sizeK P t fun n => lookK bs j fun b => match b with
    | .slc ty q' m g => match Nat.beq q q', Nat.ble (t0 + n) q with
      | true, true => Need (i < m) (cellsK (g i) t0 n fun r => k (.s (.agg r)) [(j, .slc ty q' m g)])
      | _, _ => False
    | _ => False
  | some false, .s (.c (.pos j q i t0)) => lookK bs j fun b => match b with
    | .slc ty q' m g => match Nat.beq q q', Nat.ble (t0 + 1) q with
      | true, true => Need (i < m) (cellK (g i t0) fun c => k (.s (.c c)) [(j, .slc ty q' m g)])
      | _, _ => False
    | _ => False
  | _, _ => False
/-- A number that is written out. -/
def litI (i : Int) (k : Nat → Prop) : Prop :=
  match i with
  | .ofNat n => litK 200 0 n k
  | .negSucc _ => False
/-- A cell that names data, put at a place of an array that is written out. -/
def pixK (bs : List (Nat × Blk)) (j base len : Nat) (i : Int) (c : Cell) (k : List (Nat × Blk) → List (Nat × Blk) → Prop) : Prop :=
  lookK bs j fun b => match b with
  | .row ty l => litI i fun m => match Nat.ble (m + 1) len with
    | true => litK 400 0 (base + m) fun o => ovrK l o [c] fun r => k [(j, .row ty l)] [(j, .row ty r)]
    | false => False
  | _ => False
def storeK (P : Program) (bs : List (Nat × Blk)) (t : TypeId) (va : RV) (v : Sv) (k : List (Nat × Blk) → List (Nat × Blk) → Prop) : Prop :=
  sizeK P t fun n => match Nat.beq n v.cells.length with
  | true => (match va with
    | .s (.c (.ptr j off)) => lookK bs j fun b => match b with
      | .row ty l => ovrK l off v.cells fun r => k [(j, .row ty l)] [(j, .row ty r)]
      | _ => False
    | .s (.c (.pos j q i t0)) => lookK bs j fun b => match b with
      | .slc ty q' m g => match Nat.beq q q', Nat.ble (t0 + n) q with
        | true, true => closedK v.cells (Need (i < m) (k [(j, .slc ty q' m g)] [(j, .slc ty q' m (upd2 g i t0 v.cells))]))
        | _, _ => False
      | _ => False
    | .s (.c (.pix j base len i)) => match v with
      | .c (.v (.int .i64 x)) => lookK bs j fun b => match b with
        | .row ty l => intsK l base len fun xs => setIntsK i x xs 0 fun cs => ovrK l base cs fun r => k [(j, .row ty l)] [(j, .row ty r)]
        | _ => False
      | .c (.ro a b c d) => pixK bs j base len i (.ro a b c d) k
      | .c (.osl a) => pixK bs j base len i (.osl a) k
      | _ => False
    | _ => False)
  | false => False
def fieldAddrK (va : RV) (off size : Nat) (k : RV → Prop) : Prop :=
  match va with
  | .s (.c (.ptr j o)) => litK 200 0 (o + off) fun o' => k (.s (.c (.ptr j o')))
  | .s (.c (.pro q g)) => match Nat.ble (off + size) q with
    | true => litK 200 0 (q - off) fun q' => k (.s (.c (.pro q' fun t => g (off + t))))
    | false => False
  | .s (.c (.pos j q i t)) => litK 200 0 (t + off) fun t' => k (.s (.c (.pos j q i t')))
  | .s (.c (.pxs j base len m i)) => litK 400 0 (base + off) fun b' => k (.s (.c (.pxs j b' len m i)))
  | _ => False
def indexAddrK (P : Program) (bs : List (Nat × Blk)) (t : TypeId) (vx : RV) (lit : Bool) (i : Int) (k : RV → List (Nat × Blk) → Prop) : Prop :=
  match P.underlying t, vx with
  | some (.slice e), .s (.c (.ro n q _ g)) => sizeK P e fun m => match Nat.beq m q with
    | true => Need (0 ≤ i ∧ i < n) (k (.s (.c (.pro q (g i.toNat)))) [])
    | false => False
  | some (.slice e), .s (.c (.osl j)) => sizeK P e fun m => lookK bs j fun b => match b with
    | .slc ty q n g => match Nat.beq m q with
      | true => Need (0 ≤ i ∧ i < n) (k (.s (.c (.pos j q i.toNat 0))) [(j, .slc ty q n g)])
      | false => False
    | .fsl q n g => match Nat.beq m q with
      | true => Need (0 ≤ i ∧ i < n) (k (.s (.c (.pro q (g i.toNat)))) [(j, .fsl q n g)])
      | false => False
    | _ => False
  | some (.slice e), .s (.c (.osv j q a n)) => sizeK P e fun m => match Nat.beq m q with
    | true => Need (0 ≤ i ∧ i < n) (k (.s (.c (.pos j q (a + i.toNat) 0))) [])
    | false => False
  | some (.slice e), .s (.c (.psl j off n q)) => sizeK P e fun m => match Nat.beq m q with
    | true => match Nat.beq q 1 with
      | true => Need (0 ≤ i ∧ i < n) (k (.s (.c (.pix j off n i))) [])
      | false => litI i fun i' => match Nat.ble (i' + 1) n with
        | true => litK 200 0 (off + i' * q) fun o => k (.s (.c (.ptr j o))) []
        | false => False
    | false => False
  | some (.array len e), .s (.c (.ptr j off)) => sizeK P e fun m => match lit with
    | true => litI i fun i' => match Nat.ble (i' + 1) len with
      | true => litK 200 0 (off + i' * m) fun o => k (.s (.c (.ptr j o))) []
      | false => False
    | false => match Nat.beq m 1 with
      | true => Need (0 ≤ i ∧ i < len) (k (.s (.c (.pix j off len i))) [])
      | false => match Nat.ble 20 len with
       | true => Need (0 ≤ i ∧ i < len) (k (.s (.c (.pxs j off len m i))) [])
       | false => litI i fun i' => match Nat.ble (i' + 1) len with
        | true => litK 200 0 (off + i' * m) fun o => k (.s (.c (.ptr j o))) []
        | false => False
  | some (.array len e), .s (.c (.pro q g)) => sizeK P e fun m => match Nat.ble (len * m) q with
    | true => Need (0 ≤ i ∧ i < len) (match lit, Nat.beq m 1 with
      | false, true => cellsK g 0 len fun l => match allIntB l 0 len with
        | true => intsK l 0 len fun xs => k (.s (.c (.pro 1 fun _ => .v (.int .i64 (xs.getD i.toNat 0))))) []
        | false => k (.s (.c (.pro m fun t => g (i.toNat * m + t)))) []
      | _, _ => k (.s (.c (.pro m fun t => g (i.toNat * m + t)))) [])
    | false => False
  | _, _ => False
def isLit : Operand → Bool
  | .const _ => true
  | _ => false
/-- The parts of a struct or an array laid into its zero. -/
def fillK (place : Nat → Option (Nat × Nat)) (regs : List RV) : List (Nat × Operand) → List Cell → (List Cell → Prop) → Prop
  | [], l, k => k l
  | (f, x) :: r, l, k => opK regs x fun v => match v with
    | .s v => match place f with
      | some (off, n) => match Nat.beq n v.cells.length with
        | true => ovrK l off v.cells fun l' => fillK place regs r l' k
        | false => False
      | none => False
    | _ => False
def placesK (P : Program) : List Field → (List (Nat × Nat) → Prop) → Prop
  | [], k => k []
  | f :: l, k => match P.info? f.type with
    | some i => placesK P l fun r => k ((f.offset, i.size) :: r)
    | none => False
def buildK (P : Program) (t : TypeId) (regs : List RV) (parts : List (Nat × Operand)) (k : List Cell → Prop) : Prop :=
  match P.underlying t with
  | some (.struct fs) => placesK P fs.toList fun pl => zeroK P t fun z => fillK (fun f => pl[f]?) regs parts z k
  | some (.array _ e) => sizeK P e fun n => zeroK P t fun z => fillK (fun f => some (f * n, n)) regs parts z k
  | _ => False
/-- The elements of a literal, one behind the other. -/
def elemsK (n : Nat) (regs : List RV) : List (Nat × Operand) → Nat → (List Cell → Prop) → Prop
  | [], _, k => k []
  | (f, x) :: r, m, k => match Nat.beq f m with
    | true => opK regs x fun v => match v with
      | .s v => match Nat.beq n v.cells.length with
        | true => closedK v.cells (elemsK n regs r (m + 1) fun l => k (v.cells ++ l))
        | false => False
      | _ => False
    | false => False
def litG (q : Nat) (l : List Cell) : Nat → Nat → Cell := fun i t => l.getD (i * q + t) .any
def eqBK (P : Program) (op : BinOp) (t : TypeId) (vx vy : RV) (k : RV → Prop) : Prop :=
  match vx, vy with
  | .s (.c (.v (.bool a))), .s (.c (.v (.bool b))) => match P.underlying t, op with
    | some .bool, .eql => k (.s (.c (.v (.bool (a == b)))))
    | some .bool, .neq => k (.s (.c (.v (.bool (a != b)))))
    | _, _ => False
  | _, _ => False
def binK (P : Program) (op : BinOp) (t : TypeId) (vx vy : RV) (k : RV → Prop) : Prop :=
  match vx, vy with
  | .s (.c (.v (.int q a))), .s (.c (.v (.int q' b))) => match decide (q = q') with
    | true => match op with
      | .shl => False
      | .shr => False
      | op => intOp op q a b fun v => k (.s (.c (.v v)))
    | false => False
  | .s (.c (.v (.bool a))), .s (.c (.v (.bool b))) => eqBK P op t (.s (.c (.v (.bool a)))) (.s (.c (.v (.bool b)))) k
  | _, _ => False
def beqL : List Int → List Int → Bool
  | [], [] => true
  | x :: l, y :: r => (x == y) && beqL l r
  | _, _ => false
/-- How many numbers a type is, one behind the other, that are held against others place by place. -/
def eqT (P : Program) : Nat → TypeId → Option Nat
  | 0, _ => none
  | d + 1, t => match P.info? t with
    | none => none
    | some inf => match P.underlying t with
      | some (.int .i64) => if inf.size = 1 then some 1 else none
      | some (.array n e) => match eqT P d e with
        | some k => if inf.size = n * k then some (n * k) else none
        | none => none
      | some (.struct fs) => if P.stoodInHeld t then none else
        match fs.toList.foldl (fun (a : Option Nat) f => match a with
          | none => none
          | some off => if f.name = "_" ∨ f.offset ≠ off then none else match eqT P d f.type with
            | some k => some (off + k)
            | none => none) (some 0) with
        | some k => if inf.size = k then some k else none
        | none => none
      | _ => none
/-- A type of numbers, and one of two of them. -/
def intT (P : Program) (t : TypeId) : Bool := match P.underlying t with
  | some (.int .i64) => true
  | _ => false
def pairT (P : Program) (kt : TypeId) : Bool :=
  match P.underlying kt with
  | some (.struct fs) => match fs.toList with
    | [f, g] => f.offset == 0 && g.offset == 1 && eqT P 7 f.type == some 1 && eqT P 7 g.type == some 1 && intT P f.type && intT P g.type && eqT P 8 kt == some 2
    | _ => false
  | _ => false
structure PairP (P : Program) (kt : TypeId) (k : Prop) : Prop where
  ok : pairT P kt = true
  k : k
theorem PairP.go {P : Program} {kt : TypeId} {k : Prop} (ok : pairT P kt = true) (h : k) : PairP P kt k := ⟨ok, h⟩
/-- Held against nil: of no elements, it may be nil, or may not. -/
def nilcmpK (op : BinOp) (n : Nat) (k : RV → Prop) : Prop :=
  match op with
  | .eql => (0 < n → k (.s (.c (.v (.bool false))))) ∧ (n = 0 → k (.s (.c .bq)))
  | .neq => (0 < n → k (.s (.c (.v (.bool true))))) ∧ (n = 0 → k (.s (.c .bq)))
  | _ => False
/-- Two of a type of n numbers may be held against one another. -/
def aggOk (P : Program) (t : TypeId) (n : Nat) : Bool := (match eqT P 8 t with | some m => Nat.beq m n | none => false) && !P.eqGuardType P.depth t
structure AggP (P : Program) (t : TypeId) (n : Nat) (k : Nat → Prop) : Prop where
  ok : aggOk P t n = true
  k : k n
theorem AggP.go {P : Program} {t : TypeId} {n : Nat} {k : Nat → Prop} (n' : Nat) (h : n = n') (ok : aggOk P t n' = true) (hk : k n') : AggP P t n k := by subst h; exact ⟨ok, hk⟩
def aggcmpK (P : Program) (op : BinOp) (t : TypeId) (l r : List Cell) (k : RV → Prop) : Prop :=
  match isAggT P t with
  | some true => AggP P t l.length fun n => match Nat.beq l.length n, Nat.beq r.length n with
    | true, true => intsK l 0 n fun xs => intsK r 0 n fun ys => match op with
      | .eql => k (.s (.c (.v (.bool (beqL xs ys)))))
      | .neq => k (.s (.c (.v (.bool (!beqL xs ys)))))
      | _ => False
    | _, _ => False
  | _ => False
/-- Floats: which is how to which, and what they make. -/
@[irreducible] def fEq (a b : Nat) : Bool := Ieee.double.order a b == some .eq
@[irreducible] def fLt (a b : Nat) : Bool := Ieee.double.order a b == some .lt
@[irreducible] def fGt (a b : Nat) : Bool := Ieee.double.order a b == some .gt
@[irreducible] def fAddOk (a b : Nat) : Bool := (Ieee.double.add a b).isSome
@[irreducible] def fAdd (a b : Nat) : Nat := (Ieee.double.add a b).getD 0
@[irreducible] def fDivOk (a b : Nat) : Bool := (Ieee.double.div a b).isSome
@[irreducible] def fDiv (a b : Nat) : Nat := (Ieee.double.div a b).getD 0
def fltK (op : BinOp) (a b : Nat) (k : RV → Prop) : Prop :=
  match op with
  | .eql => k (.s (.c (.v (.bool (fEq a b)))))
  | .neq => k (.s (.c (.v (.bool (!fEq a b)))))
  | .lss => k (.s (.c (.v (.bool (fLt a b)))))
  | .gtr => k (.s (.c (.v (.bool (fGt a b)))))
  | .leq => k (.s (.c (.v (.bool (fLt a b || fEq a b)))))
  | .geq => k (.s (.c (.v (.bool (fGt a b || fEq a b)))))
  | .add => Need (fAddOk a b = true) (k (.s (.c (.v (.float .f64 (fAdd a b))))))
  | .quo => Need (fDivOk a b = true) (k (.s (.c (.v (.float .f64 (fDiv a b))))))
  | _ => False
def strK (op : BinOp) (a b : ByteArray) (k : RV → Prop) : Prop :=
  match op with
  | .eql => k (.s (.c (.v (.bool (strEq a b)))))
  | .neq => k (.s (.c (.v (.bool (!strEq a b)))))
  | _ => False
/-- What is held against what: structs and arrays, a slice against nil; else k'. -/
def cmpK (P : Program) (op : BinOp) (t : TypeId) (vx vy : RV) (k : RV → Prop) (k' : Prop) : Prop :=
  match vx with
  | .s (.agg l) => match vy with
    | .s (.agg r) => aggcmpK P op t l r k
    | _ => False
  | .s (.c (.ro n _ _ _)) => match vy with
    | .s (.c (.v (.slice none 0 0))) => match P.underlying t with
      | some (.slice _) => nilcmpK op n k
      | _ => False
    | _ => False
  | .s (.c (.v (.float .f64 a))) => match vy with
    | .s (.c (.v (.float .f64 b))) => fltK op a b k
    | _ => False
  | .s (.c (.v (.string a))) => match vy with
    | .s (.c (.v (.string b))) => strK op a b k
    | _ => False
  | _ => k'
def idxK (P : Program) (t : TypeId) (vx vi : RV) (k : RV → Prop) : Prop :=
  match P.underlying t, vx, vi with
  | some (.array len e), .s (.agg l), .s (.c (.v (.int _ i))) => match isAggT P e with
    | some false => sizeK P e fun m => match Nat.beq m 1, Nat.beq l.length len with
      | true, true => Need (0 ≤ i ∧ i < len) (intsK l 0 len fun xs => k (.s (.c (.v (.int .i64 (xs.getD i.toNat 0))))))
      | _, _ => False
    | _ => False
  | some .string, .s (.c (.v (.string s))), .s (.c (.v (.int _ i))) => Need (0 ≤ i ∧ i < (strLen s : Nat)) (k (.s (.c (.v (.int .u8 (strAt s i.toNat))))))
  | _, _, _ => False
def lenK (bs : List (Nat × Blk)) (vx : RV) (k : Nat → List (Nat × Blk) → Prop) : Prop :=
  match vx with
  | .s (.c (.ro n _ _ _)) => k n []
  | .s (.c (.v (.slice none n _))) => k n []
  | .s (.c (.psl _ _ n _)) => k n []
  | .s (.c (.osv _ _ _ n)) => k n []
  | .s (.c (.osl j)) => lookK bs j fun b => match b with
    | .slc ty q n g => k n [(j, .slc ty q n g)]
    | .fsl q n g => k n [(j, .fsl q n g)]
    | _ => False
  | _ => False
/-- What a slice that is read holds. -/
def readsK (bs : List (Nat × Blk)) (vx : RV) (k : Nat → Nat → (Nat → Nat → Cell) → List (Nat × Blk) → Prop) : Prop :=
  match vx with
  | .s (.c (.ro n q _ g)) => k n q g []
  | .s (.c (.osl j)) => lookK bs j fun b => match b with
    | .slc ty q n g => k n q g [(j, .slc ty q n g)]
    | .fsl q n g => k n q g [(j, .fsl q n g)]
    | _ => False
  | _ => False
def capsK : List RV → (List Cap → Prop) → Prop
  | [], k => k []
  | .s (.c (.ptr j o)) :: l, k => capsK l fun r => k (.ptr j o :: r)
  | .s (.c (.v x)) :: l, k => capsK l fun r => k (.v x :: r)
  | _, _ => False
def Cap.rv : Cap → RV
  | .ptr j o => .s (.c (.ptr j o))
  | .v x => .s (.c (.v x))
def blksAt (bs : List (Nat × Blk)) : List Nat → List (Nat × Blk)
  | [] => []
  | j :: l => match look bs j with
    | some b => (j, b) :: blksAt bs l
    | none => blksAt bs l
structure CallP (G : Type) (p : G → List Nat → Prop) : Prop where
  ex : ∃ g σ, p g σ
def callK (Γ : FuncId → Option FSpec) (bs : List (Nat × Blk)) (nx : Nat) (fid : FuncId) (vs : List RV) (k : Kont) : Prop :=
  match Γ fid with
  | none => False
  | some S => CallP S.G fun g σ => match S.yields g, S.panics g with
    | some _, _ => False
    | none, some _ => False
    | none, none => σ.length = (S.blks g).length ∧ rvsEq bs σ (S.args g) vs ∧ blksEq bs σ (S.blks g) ∧ S.pre g ∧
      (rvRen σ nx (S.res g) fun rv => blksRen σ nx (S.post g) fun pb => litK 400 0 (nx + ((S.post g).length - σ.length)) fun nx' =>
        freezeK bs (lentRs (S.args g) vs) fun lent fz => match nodupB σ, disjB σ (lent.map (·.1)) with
          | true, true => match rv.plain, σ, pb with
            | true, [], [] => k rv lent [] [] nx'
            | _, _, pb => k rv [] (lent ++ blksAt bs σ) (fz ++ pb) nx'
          | _, _ => False)
/-- A call that panics: k is told with what, the blocks, the next free name. -/
def panCallK (Γ : FuncId → Option FSpec) (bs : List (Nat × Blk)) (nx : Nat) (fid : FuncId) (vs : List RV) (k : List PanicEntry → List (Nat × Blk) → Nat → Prop) : Prop :=
  match Γ fid with
  | none => False
  | some S => CallP S.G fun g σ => match S.yields g, S.panics g with
    | some _, _ => False
    | none, none => False
    | none, some ch => σ.length = (S.blks g).length ∧ rvsEq bs σ (S.args g) vs ∧ blksEq bs σ (S.blks g) ∧ S.pre g ∧
      (blksRen σ nx (S.post g) fun pb => litK 400 0 (nx + ((S.post g).length - σ.length)) fun nx' =>
        freezeK bs (lentRs (S.args g) vs) fun lent fz => match nodupB σ, disjB σ (lent.map (·.1)) with
          | true, true => putsK bs (fz ++ pb) fun bs' => k ch bs' nx'
          | _, _ => False)
def panOpK (Γ : FuncId → Option FSpec) (o : Oper) (regs : List RV) (bs : List (Nat × Blk)) (nx : Nat) (k : List PanicEntry → List (Nat × Blk) → Nat → Prop) : Prop :=
  match o.guard, o.op with
  | none, .call c => match c.callee with
    | .value f => opK regs f fun vf => opsK regs c.args.toList fun vs => match vf with
      | .s (.c (.fn fid caps)) => panCallK Γ bs nx fid (vs ++ caps.map Cap.rv) k
      | .s (.c (.bfn fid caps)) => match c.args.toList with
        | [] => panCallK Γ bs nx fid (vs ++ caps.map Cap.rv) k
        | _ => False
      | _ => False
    | _ => False
  | _, _ => False
/-- Does the last operation call a function that may panic? -/
def lastPan (Γ : FuncId → Option FSpec) : List Oper → Bool
  | [] => false
  | [o] => match o.op with
    | .call c => match c.callee with
      | .value (.func f) => match Γ f with
        | some S => S.mayPan
        | none => false
      | _ => false
    | _ => false
  | _ :: o :: l => lastPan Γ (o :: l)
def lastK : List Oper → (Oper → Prop) → Prop
  | [], _ => False
  | [o], k => k o
  | _ :: o :: l, k => lastK (o :: l) k
def initL : List Oper → List Oper
  | [] => []
  | [_] => []
  | o :: o' :: l => o :: initL (o' :: l)
structure RegP (A B : Prop) : Prop where
  or : A ∨ B
theorem RegP.go {A B : Prop} (h : A) : RegP A B := ⟨.inl h⟩
theorem RegP.pan {A B : Prop} (h : B) : RegP A B := ⟨.inr h⟩
/-- An array's cells, as a slice. -/
def slArrK (regs : List RV) (vx : RV) (len m : Nat) (lo hi : Option Operand) (k : RV → Prop) : Prop :=
  match vx, hi with
  | .s (.c (.ptr j off)), some z => match lo with
    | none => opK regs z fun vz => match vz with
      | .s (.c (.v (.int _ b))) => litI b fun b' => match Nat.ble 1 len, Nat.ble b' len with
        | true, true => k (.s (.c (.psl j off b' m)))
        | _, _ => False
      | _ => False
    | some _ => False
  | .s (.c (.ptr j off)), none => match lo with
    | none => match Nat.ble 1 len with
      | true => k (.s (.c (.psl j off len m)))
      | false => False
    | some y => opK regs y fun vy => match vy with
      | .s (.c (.v (.int _ a))) => litI a fun a' => match Nat.ble (a' + 1) len with
        | true => litK 200 0 (off + a' * m) fun o' => litK 200 0 (len - a') fun n' => k (.s (.c (.psl j o' n' m)))
        | false => False
      | _ => False
  | _, _ => False
/-- What nil may be read as: a slice of nothing. -/
structure NilP (k : List Cell → Prop) : Prop where
  ex : ∃ q tt g, k [.ro 0 q tt g]
theorem NilP.at {k : List Cell → Prop} (q : Nat) (tt : Bool) (g : Nat → Nat → Cell) (h : k [.ro 0 q tt g]) : NilP k := ⟨q, tt, g, h⟩
/-- A slice within another one may be read as one that has the same elements. -/
structure RoP (n q : Nat) (tt : Bool) (g : Nat → Nat → Cell) (k : List Cell → Prop) : Prop where
  ex : ∃ n' tt' g', n = n' ∧ (tt' = true → tt = true) ∧ (∀ i, i < n' → ∀ t, t < q → g i t = g' i t) ∧ k [.ro n' q tt' g']
theorem RoP.id {n q : Nat} {tt : Bool} {g : Nat → Nat → Cell} {k : List Cell → Prop} (h : k [.ro n q tt g]) : RoP n q tt g k := ⟨_, _, _, rfl, fun h => h, fun _ _ _ _ => rfl, h⟩
theorem RoP.at {n q : Nat} {tt : Bool} {g : Nat → Nat → Cell} {k : List Cell → Prop} (n' : Nat) (g' : Nat → Nat → Cell) (hn : n = n') (hg : ∀ i, i < n' → ∀ t, t < q → g i t = g' i t) (h : k [.ro n' q false g']) : RoP n q tt g k := ⟨_, _, _, hn, (fun h => by cases h), hg, h⟩
structure NilS (i : Nat) (k : List Cell → Prop) : Prop where
  ex : ∃ q tt g, k [.ro 0 q tt g]
/-- Nil at place i of a struct. -/
theorem NilS.at {k : List Cell → Prop} (i q : Nat) (tt : Bool) (g : Nat → Nat → Cell) (h : k [.ro 0 q tt g]) : NilS i k := ⟨q, tt, g, h⟩
def weakL : Nat → List Cell → (List Cell → Prop) → Prop
  | _, [], k => k []
  | i, c :: l, k => match c with
    | .v (.slice none 0 0) => NilS i fun r => weakL (i + 1) l fun r' => k (r ++ r')
    | c => weakL (i + 1) l fun r' => k (c :: r')
def weakK (P : Program) (e : TypeId) (l : List Cell) (k : List Cell → Prop) : Prop :=
  match P.underlying e with
  | some (.slice _) => match l with
    | [.v (.slice none 0 0)] => NilP k
    | [.ro n q tt g] => RoP n q tt g k
    | l => k l
  | some (.struct _) => weakL 0 l k
  | _ => k l
def Weak1 (c c' : Cell) : Prop :=
  c' = c ∨ (c = .v (.slice none 0 0) ∧ ∃ q tt g, c' = .ro 0 q tt g) ∨ ∃ n q tt g tt' g', c = .ro n q tt g ∧ c' = .ro n q tt' g' ∧ (tt' = true → tt = true) ∧ ∀ i, i < n → ∀ t, t < q → g i t = g' i t
inductive Weak : List Cell → List Cell → Prop
  | nil : Weak [] []
  | cons {c c' : Cell} {l l' : List Cell} (h : Weak1 c c') (t : Weak l l') : Weak (c :: l) (c' :: l')
theorem Weak.refl : ∀ l, Weak l l
  | [] => .nil
  | _ :: l => .cons (.inl rfl) (Weak.refl l)
theorem Weak.len {l l' : List Cell} (h : Weak l l') : l'.length = l.length := by
  induction h with
  | nil => rfl
  | cons _ _ ih => simp [ih]
theorem weakL_spec : ∀ (l : List Cell) (i : Nat) (k : List Cell → Prop), weakL i l k → ∃ l', k l' ∧ Weak l l'
  | [], _, k, h => ⟨_, h, .nil⟩
  | c :: l, i, k, h => by
    unfold weakL at h
    split at h
    · obtain ⟨q, tt, g, h⟩ := h
      obtain ⟨l', h1, h2⟩ := weakL_spec l _ _ h
      exact ⟨_, h1, .cons (.inr (.inl ⟨rfl, q, tt, g, rfl⟩)) h2⟩
    · obtain ⟨l', h1, h2⟩ := weakL_spec l _ _ h
      exact ⟨_, h1, .cons (.inl rfl) h2⟩
theorem weakK_spec {P : Program} {e : TypeId} {l : List Cell} {k : List Cell → Prop} (h : weakK P e l k) : ∃ l', k l' ∧ Weak l l' := by
  unfold weakK at h
  split at h
  · split at h
    · obtain ⟨q, tt, g, h⟩ := h
      exact ⟨_, h, .cons (.inr (.inl ⟨rfl, q, tt, g, rfl⟩)) .nil⟩
    · obtain ⟨n', tt', g', rfl, h1, h2, h⟩ := h
      exact ⟨_, h, .cons (.inr (.inr ⟨_, _, _, _, _, _, rfl, rfl, h1, h2⟩)) .nil⟩
    · exact ⟨_, h, .refl _⟩
  · exact weakL_spec _ _ _ h
  · exact ⟨_, h, .refl _⟩
/-- A part of a string. -/
def strCutK (regs : List RV) (x l h : Operand) (same : RV → Prop) : Prop :=
  opK regs x fun vx => opK regs l fun vl => opK regs h fun vh => match vx, vl, vh with
    | .s (.c (.v (.string s))), .s (.c (.v (.int _ a))), .s (.c (.v (.int _ b))) => Need (0 ≤ a ∧ a ≤ b ∧ b ≤ strLen s) (same (.s (.c (.v (.string (strCut s a b))))))
    | _, _, _ => False
def strSlK (regs : List RV) (x : Operand) (lo hi : Option Operand) (same : RV → Prop) : Prop :=
  match lo, hi with
  | some l, some h => strCutK regs x l h same
  | _, _ => False
/-- append of a string. -/
def appStrK (P : Program) (bs : List (Nat × Blk)) (nx : Nat) (e t' : TypeId) (v x : RV) (k : Kont) : Prop :=
  match P.underlying t', P.info? e, x with
  | some .string, some i, .s (.c (.v (.string s))) => match isByte i, v with
    | true, .s (.c (.v (.slice none 0 0))) => Need (strLen s ≤ 140737488355328) (litK 400 0 (nx + 1) fun nx' => k (.s (.c (.osl nx))) [] [] [(nx, .slc e 1 (strLen s) (strG s))] nx')
    | true, .s (.c (.osl j)) => lookK bs j fun b => match b with
      | .slc ty q n g => match Nat.beq q 1, Nat.beq ty e with
        | true, true => Need (n + strLen s ≤ 140737488355328) (litK 400 0 (nx + 1) fun nx' => k (.s (.c (.osl nx))) [] [(j, .slc ty q n g)] [(j, .gone), (nx, .slc e 1 (n + strLen s) (catG n g (strG s)))] nx')
        | _, _ => False
      | _ => False
    | _, _ => False
  | _, _, _ => False
/-- Of slices, from a place on: to be seen, not to be read alone. -/
def viewT (P : Program) (t : TypeId) (lo hi : Option Operand) : Option Operand :=
  match P.underlying t, lo, hi with
  | some (.slice e), some l, none => match P.underlying e with
    | some (.slice _) => some l
    | _ => none
  | _, _, _ => none
def viewK (P : Program) (regs : List RV) (bs : List (Nat × Blk)) (nx : Nat) (t : TypeId) (x l : Operand) (k : Kont) : Prop :=
  match P.underlying t with
  | some (.slice e) => opK regs x fun vx => opK regs l fun vl => sizeK P e fun m => match vx, vl with
    | .s (.c (.osl j)), .s (.c (.v (.int _ a))) => lookK bs j fun b => match b with
      | .slc ty q n g => match Nat.beq m q with
        | true => Need (0 ≤ a ∧ a < n) (k (.s (.c (.osv j q a.toNat (n - a.toNat)))) [(j, .slc ty q n g)] [] [] nx)
        | false => False
      | _ => False
    | _, _ => False
  | _ => False
/-- clear of what is seen of a slice. -/
def clearK (P : Program) (bs : List (Nat × Blk)) (nx : Nat) (vs : List RV) (ts : List TypeId) (k : Kont) : Prop :=
  match vs, ts with
  | [.s (.c (.osv j q a n))], [t] => match P.underlying t with
    | some (.slice e) => lookK bs j fun b => match b with
      | .slc ty q' m g => match P.info? e with
        | some inf => match inf.zero with
          | some z => match z.oneCell', Nat.beq q 1, Nat.beq q' 1 with
            | true, true, true => Need (0 < n ∧ a + n = m) (k (.tup []) [] [(j, .slc ty q' m g)] [(j, .slc ty 1 m fun i t => if i < a then g i t else .v z)] nx)
            | _, _, _ => False
          | none => False
        | none => False
      | _ => False
    | _ => False
  | _, _ => False
/-- A literal of a slice. -/
def bsK (P : Program) (regs : List RV) (nx : Nat) (t : TypeId) (len : Nat) (parts : Array (Nat × Operand)) (K : RV → Blk → Prop) : Prop :=
  match P.underlying t with
  | some (.slice e) => sizeK P e fun q => match Nat.beq parts.size len, Nat.ble (len * q) 10000, Nat.ble 1 q with
    | true, true, true => zeroK P e fun _ => elemsK q regs parts.toList 0 fun l => weakK P e l fun l => K (.s (.c (.osl nx))) (.slc e q len (litG q l))
    | _, _, _ => False
  | _ => False
def nthO : List RV → Nat → Option RV
  | [], _ => none
  | x :: _, 0 => some x
  | _ :: l, n + 1 => nthO l n
/-- The registers, of a literal's parts, that hold slices of one's own. -/
def oslT (regs : List RV) : List (Nat × Operand) → List Tmp
  | [] => []
  | (_, .tmp t) :: r => match nthO regs t with
    | some (.s (.c (.osl _))) => t :: oslT regs r
    | _ => oslT regs r
  | _ :: r => oslT regs r
/-- A register's slice is from now on to be read alone. -/
def frz1 (regs : List RV) (bs : List (Nat × Blk)) (t : Tmp) (K : List RV → List (Nat × Blk) → Nat × Blk → Nat × Blk → Prop) : Prop :=
  nthK regs t fun v => match v with
  | .s (.c (.osl j)) => lookK bs j fun b => match b with
    | .slc ty q n g => setK regs t (.s (.c (.ro n q false g))) fun regs' => putK bs j (.fsl q n g) fun bs' => K regs' bs' (j, .slc ty q n g) (j, .fsl q n g)
    | _ => False
  | _ => False
def bsFK (P : Program) (regs : List RV) (bs : List (Nat × Blk)) (nx : Nat) (t : TypeId) (len : Nat) (parts : Array (Nat × Operand)) (k : Kont) : Prop :=
  match oslT regs parts.toList with
  | [] => bsK P regs nx t len parts fun v b => litK 400 0 (nx + 1) fun nx' => k v [] [] [(nx, b)] nx'
  | [t1] => frz1 regs bs t1 fun regs1 _ p1 q1 => bsK P regs1 nx t len parts fun v b => litK 400 0 (nx + 1) fun nx' => k v [] [p1] [q1, (nx, b)] nx'
  | [t1, t2] => frz1 regs bs t1 fun regs1 bs1 p1 q1 => frz1 regs1 bs1 t2 fun regs2 _ p2 q2 => bsK P regs2 nx t len parts fun v b => litK 400 0 (nx + 1) fun nx' => k v [] [p1, p2] [q1, q2, (nx, b)] nx'
  | _ => False
def stepK (P : Program) (Γ : FuncId → Option FSpec) (o : Oper) (regs : List RV) (bs : List (Nat × Blk)) (nx : Nat) (k : Kont) : Prop :=
  let same (v : RV) : Prop := k v [] [] [] nx
  let new (v : RV) (b : Blk) : Prop := litK 400 0 (nx + 1) fun nx' => k v [] [] [(nx, b)] nx'
  match o.op with
  | .move x => opK regs x same
  | .assign x => opK regs x same
  | .pick c a b => opK regs c fun vc => opK regs a fun va => opK regs b fun vb =>
    match vc with
    | .s (.c (.v (.bool t))) => Br t (same va) (same vb)
    | _ => False
  | .alloc e => zeroK P e fun l => new (.s (.c (.ptr nx 0))) (.row e l)
  | .box e x => opK regs x fun v => match v with
    | .s v => new (.s (.c (.ptr nx 0))) (.row e v.cells)
    | _ => False
  | .build t parts => buildK P t regs parts.toList fun l => same (.s (.agg l))
  | .buildSlice t len parts => bsFK P regs bs nx t len parts k
  | .load t a => opK regs a fun va => loadK P bs t va fun v rd => k v rd [] [] nx
  | .store t a x => opK regs a fun va => opK regs x fun vx => match vx with
    | .s v => storeK P bs t va v fun pre pb => k .un [] pre pb nx
    | _ => False
  | .nilCheck x => opK regs x fun vx => match vx with
    | .s (.c (.ptr _ _)) => same vx
    | .s (.c (.pro _ _)) => same vx
    | .s (.c (.pos _ _ _ _)) => same vx
    | .s (.c (.pix _ _ _ _)) => same vx
    | .s (.c (.pxs _ _ _ _ _)) => same vx
    | .s (.c (.fn _ _)) => same vx
    | _ => False
  | .binOp op t x y _ => opK regs x fun vx => opK regs y fun vy => cmpK P op t vx vy same (binK P op t vx vy same)
  | .index t x ix => opK regs x fun vx => opK regs ix fun vi => idxK P t vx vi same
  | .unOp op _ x => opK regs x fun vx => match op, vx with
    | .not, .s (.c (.v (.bool b))) => same (.s (.c (.v (.bool !b))))
    | .neg, .s (.c (.v (.int q n))) => same (.s (.c (.v (.int q (q.wrap (0 - n))))))
    | _, _ => False
  | .convert src dst x => opK regs x fun vx => match P.underlying src, P.underlying dst, vx with
    | some (.int _), some (.int q), .s (.c (.v (.int _ n))) => same (.s (.c (.v (.int q (q.wrap n)))))
    | some (.slice e), some .string, vx => match P.underlying e with
      | some (.int .u8) => readsK bs vx fun n q g rd => match Nat.beq q 1 with
        | true => StrP n g fun s => k (.s (.c (.v (.string s)))) rd [] [] nx
        | false => False
      | _ => False
    | _, _, _ => False
  | .sliceToArrayPointer d x => opK regs x fun vx => match P.underlying d, vx with
    | some (.array n _), .s (.c (.psl j off m _)) => match Nat.ble n m with
      | true => same (.s (.c (.ptr j off)))
      | false => False
    | _, _ => False
  | .makeFunc (.func f) first captured => match first.size with
    | 0 => opsK regs captured.toList fun vs => capsK vs fun cs => same (.s (.c (.fn f cs)))
    | _ => match captured.size with
      | 0 => opsK regs first.toList fun vs => capsK vs fun cs => same (.s (.c (.bfn f cs)))
      | _ => False
  | .makeMap t none => match P.underlying t with
    | some (.map kt _) => match P.underlying kt with
      | some (.struct _) => new (.s (.c (.mp nx))) (.pmap fun _ _ => none)
      | some .string => new (.s (.c (.mp nx))) (.smap fun _ => none)
      | _ => new (.s (.c (.mp nx))) (.imap fun _ => none)
    | _ => False
  | .makeSlice t l c => opK regs l fun vl => opK regs c fun vc => match P.underlying t, vl, vc with
    | some (.slice e), .s (.c (.v (.int .i64 a))), .s (.c (.v (.int .i64 b))) => match P.info? e with
      | some i => zeroK P e fun z => match Nat.beq i.size z.length, Nat.ble 1 i.size with
        | true, true => Need (0 ≤ a ∧ a = b ∧ (i.bytes : Int) * a ≤ 281474976710656 ∧ a ≤ 9223372036854775807) (weakK P e z fun z => new (.s (.c (.osl nx))) (.slc e i.size a.toNat fun _ t => z.getD t .any))
        | _, _ => False
      | none => False
    | _, _, _ => False
  | .slice t x lo hi none => match viewT P t lo hi with
   | some l => viewK P regs bs nx t x l k
   | none => match P.underlying t with
    | some (.slice e) => opK regs x fun vx => sizeK P e fun m => readsK bs vx fun n q g rd => match Nat.beq m q with
      | true => sliceLo regs lo fun a => sliceHi regs hi n fun b =>
        Need (0 ≤ a ∧ a ≤ b ∧ b ≤ n) (fzK rd fun pb => k (.s (.c (.ro (b - a).toNat q (tightOf vx hi) fun i t => g (a.toNat + i) t))) [] rd pb nx)
      | false => False
    | some (.array len e) => opK regs x fun vx => sizeK P e fun m => slArrK regs vx len m lo hi fun v => k v [] [] [] nx
    | some .string => strSlK regs x lo hi fun v => k v [] [] [] nx
    | _ => False
  | .slice t x lo (some hi) (some mx) => match P.underlying t with
    | some (.slice e) => opK regs x fun vx => sizeK P e fun m => readsK bs vx fun n q g rd => match Nat.beq m q with
      | true => sliceLo regs lo fun a => sliceHi regs (some hi) n fun b => sliceHi regs (some mx) n fun c =>
        Need (0 ≤ a ∧ a ≤ b ∧ b ≤ n ∧ c = b) (fzK rd fun pb => k (.s (.c (.ro (b - a).toNat q true fun i t => g (a.toNat + i) t))) [] rd pb nx)
      | false => False
    | _ => False
  | .fieldAddr s x f => opK regs x fun vx => fieldK P s f fun fl n => fieldAddrK vx fl.offset n same
  | .field s x f => opK regs x fun vx => fieldK P s f fun fl n => match isAggT P fl.type, vx with
    | some true, .s (.agg l) => subK l fl.offset n fun r => same (.s (.agg r))
    | some false, .s (.agg l) => nthK l fl.offset fun c => same (.s (.c c))
    | _, _ => False
  | .indexAddr t x ix => opK regs x fun vx => opK regs ix fun vi => match vi with
    | .s (.c (.v (.int _ i))) => indexAddrK P bs t vx (isLit ix) i fun v rd => k v rd [] [] nx
    | _ => False
  | .lookup t m ix ok => match P.underlying t with
    | some (.map kt et) => opK regs m fun vm => opK regs ix fun vi => match P.underlying kt, P.underlying et, vm, vi with
      | some (.int .i64), some (.int .i64), .s (.c (.mp j)), .s (.c (.v (.int .i64 a))) => lookK bs j fun b => match b with
        | .imap f => match P.info? et with
          | some inf => match inf.zero with
            | some (.int .i64 0) => match ok with
              | false => k (.s (.c (.v (.int .i64 ((f a).getD 0))))) [(j, .imap f)] [] [] nx
              | true => k (.tup [.c (.v (.int .i64 ((f a).getD 0))), .c (.v (.bool (f a).isSome))]) [(j, .imap f)] [] [] nx
            | _ => False
          | none => False
        | _ => False
      | some (.struct _), some (.int .i64), .s (.c (.mp j)), .s (.agg l) => PairP P kt (match Nat.beq l.length 2 with
        | true => intsK l 0 2 fun xs => lookK bs j fun b => match b with
          | .pmap f => match P.info? et with
            | some inf => match inf.zero with
              | some (.int .i64 0) => match ok with
                | false => k (.s (.c (.v (.int .i64 ((f (xs.getD 0 0) (xs.getD 1 0)).getD 0))))) [(j, .pmap f)] [] [] nx
                | true => k (.tup [.c (.v (.int .i64 ((f (xs.getD 0 0) (xs.getD 1 0)).getD 0))), .c (.v (.bool (f (xs.getD 0 0) (xs.getD 1 0)).isSome))]) [(j, .pmap f)] [] [] nx
              | _ => False
            | none => False
          | _ => False
        | false => False)
      | some .string, some (.int .i64), .s (.c (.mp j)), .s (.c (.v (.string a))) => lookK bs j fun b => match b with
        | .smap f => match P.info? et with
          | some inf => match inf.zero with
            | some (.int .i64 0) => match ok with
              | false => k (.s (.c (.v (.int .i64 ((f a).getD 0))))) [(j, .smap f)] [] [] nx
              | true => k (.tup [.c (.v (.int .i64 ((f a).getD 0))), .c (.v (.bool (f a).isSome))]) [(j, .smap f)] [] [] nx
            | _ => False
          | none => False
        | _ => False
      | _, _, _, _ => False
    | _ => False
  | .mapUpdate t m ix x => match P.underlying t with
    | some (.map kt _) => opK regs m fun vm => opK regs ix fun vi => opK regs x fun vx => match P.underlying kt, vm, vi, vx with
      | some (.int .i64), .s (.c (.mp j)), .s (.c (.v (.int .i64 a))), .s (.c (.v (.int .i64 c))) => lookK bs j fun b => match b with
        | .imap f => k .un [] [(j, .imap f)] [(j, .imap fun a' => if a' = a then some c else f a')] nx
        | _ => False
      | some (.struct _), .s (.c (.mp j)), .s (.agg l), .s (.c (.v (.int .i64 c))) => PairP P kt (match Nat.beq l.length 2 with
        | true => intsK l 0 2 fun xs => lookK bs j fun b => match b with
          | .pmap f => k .un [] [(j, .pmap f)] [(j, .pmap fun a' b' => if a' = xs.getD 0 0 ∧ b' = xs.getD 1 0 then some c else f a' b')] nx
          | _ => False
        | false => False)
      | some .string, .s (.c (.mp j)), .s (.c (.v (.string a))), .s (.c (.v (.int .i64 c))) => lookK bs j fun b => match b with
        | .smap f => k .un [] [(j, .smap f)] [(j, .smap fun a' => if (a' == a) = true then some c else f a')] nx
        | _ => False
      | _, _, _, _ => False
    | _ => False
  | .extract x ix => opK regs x fun vx => match vx with
    | .tup l => nthK l ix fun s => same (.s s)
    | _ => False
  | .call c => match c.callee with
    | .builtin .len => opsK regs c.args.toList fun vs => match vs, c.argTypes.toList with
      | [v], [t] => match P.underlying t with
        | some (.slice _) => lenK bs v fun n rd => k (.s (.c (.v (.int .i64 n)))) rd [] [] nx
        | some (.array n _) => same (.s (.c (.v (.int .i64 n))))
        | some .string => match v with
          | .s (.c (.v (.string s))) => same (.s (.c (.v (.int .i64 (strLen s : Nat)))))
          | _ => False
        | _ => False
      | _, _ => False
    | .builtin .min => opsK regs c.args.toList fun vs => match vs with
      | [.s (.c (.v (.int q a))), .s (.c (.v (.int _ b)))] => same (.s (.c (.v (.int q (if b < a then b else a)))))
      | _ => False
    | .builtin .max => opsK regs c.args.toList fun vs => match vs with
      | [.s (.c (.v (.int q a))), .s (.c (.v (.int _ b)))] => same (.s (.c (.v (.int q (if b > a then b else a)))))
      | _ => False
    | .builtin .append => opsK regs c.args.toList fun vs => match vs, c.argTypes.toList with
      | [v, x], [t, t'] => match Nat.beq t t', P.underlying t with
        | true, some (.slice e) => match P.info? e with
          | some i => zeroK P e fun z => readsK bs x fun m q g2 rd => match Nat.beq i.size z.length, Nat.ble 1 i.size, Nat.beq q i.size with
            | true, true, true => match v with
              | .s (.c (.v (.slice none 0 0))) =>
                Need (m ≤ 9223372036854775807 ∧ m * i.bytes ≤ 140737488355328) (litK 400 0 (nx + 1) fun nx' => k (.s (.c (.osl nx))) rd [] [(nx, .slc e q m g2)] nx')
              | .s (.c (.osl j)) => lookK bs j fun b => match b with
                | .slc ty q' n g => match Nat.beq q q', Nat.beq ty e with
                  | true, true => Need (n + m ≤ 9223372036854775807 ∧ (n + m) * i.bytes ≤ 140737488355328)
                    (litK 400 0 (nx + 1) fun nx' => k (.s (.c (.osl nx))) rd [(j, .slc ty q' n g)] [(j, .gone), (nx, .slc e q (n + m) (catG n g g2))] nx')
                  | _, _ => False
                | _ => False
              | .s (.c (.ro n q' true g)) => match Nat.beq q q' with
                | true => Need (0 < m ∧ n + m ≤ 9223372036854775807 ∧ (n + m) * i.bytes ≤ 140737488355328)
                  (litK 400 0 (nx + 1) fun nx' => k (.s (.c (.osl nx))) rd [] [(nx, .slc e q (n + m) (catG n g g2))] nx')
                | false => False
              | _ => False
            | _, _, _ => False
          | none => False
        | false, some (.slice e) => appStrK P bs nx e t' v x k
        | _, _ => False
      | _, _ => False
    | .builtin .clear => opsK regs c.args.toList fun vs => clearK P bs nx vs c.argTypes.toList k
    | .builtin .copy => opsK regs c.args.toList fun vs => match vs, c.argTypes.toList with
      | [.s (.c (.osl j)), x], [t, _] => match P.underlying t with
        | some (.slice e) => lookK bs j fun b => match b with
          | .slc ty q n g => readsK bs x fun m q' g2 rd => sizeK P e fun sz => match Nat.beq q q', Nat.beq q sz with
            | true, true => Need (m = n) (k (.s (.c (.v (.int .i64 n)))) rd [(j, .slc ty q n g)] [(j, .slc ty q n g2)] nx)
            | _, _ => False
          | _ => False
        | _ => False
      | [.s (.c (.psl j off n q)), .s (.c (.psl j2 off2 n2 q2))], [t, _] => match P.underlying t with
        | some (.slice e) => lookK bs j fun b => lookK bs j2 fun b2 => sizeK P e fun sz => match b, b2 with
          | .row ty l, .row ty2 l2 => match Nat.beq q sz, Nat.beq q2 q, Nat.beq n2 n, Nat.beq j j2 with
            | true, true, true, false => litK 400 0 (n * q) fun nq => subK l2 off2 nq fun r => ovrK l off r fun r' => k (.s (.c (.v (.int .i64 n)))) [(j2, .row ty2 l2)] [(j, .row ty l)] [(j, .row ty r')] nx
            | _, _, _, _ => False
          | _, _ => False
        | _ => False
      | _, _ => False
    | .value f => opK regs f fun vf => opsK regs c.args.toList fun vs => match vf with
      | .s (.c (.fn fid caps)) => callK Γ bs nx fid (vs ++ caps.map Cap.rv) k
      | .s (.c (.bfn fid caps)) => match c.args.toList with
        | [] => callK Γ bs nx fid (vs ++ caps.map Cap.rv) k
        | _ => False
      | _ => False
    | _ => False
  | _ => False
where
  sliceLo (regs : List RV) (x : Option Operand) (k : Int → Prop) : Prop :=
    match x with
    | none => k 0
    | some x => opK regs x fun v => match v with
      | .s (.c (.v (.int _ a))) => k a
      | _ => False
  sliceHi (regs : List RV) (x : Option Operand) (n : Nat) (k : Int → Prop) : Prop :=
    match x with
    | none => k n
    | some x => opK regs x fun v => match v with
      | .s (.c (.v (.int _ a))) => k a
      | _ => False
  tightOf (v : RV) (hi : Option Operand) : Bool :=
    match v, hi with
    | .s (.c (.ro _ _ t _)), none => t
    | _, _ => false
  fzK (rd : List (Nat × Blk)) (k : List (Nat × Blk) → Prop) : Prop :=
    match rd with
    | [(j, .slc _ q n g)] => k [(j, .fsl q n g)]
    | rd => k rd
/-- The region's operations in the order of the text. -/
def setD (regs : List RV) (d : Option Tmp) (v : RV) (K : List RV → Prop) : Prop :=
  match d with
  | none => K regs
  | some t => setK regs t v K
def runOps (P : Program) (Γ : FuncId → Option FSpec) (ops : Array Oper) : List Oper → St → (St → Prop) → Prop
  | [], st, K => K st
  | o :: rest, ⟨regs, bs, nx⟩, K =>
    let go : Prop := stepK P Γ o regs bs nx fun v _ _ pb nx' => setD regs o.dst v fun regs' => putsK bs pb fun bs' => runOps P Γ ops rest ⟨regs', bs', nx'⟩ K
    match o.guard with
    | none => go
    | some (j, want) =>
      match ops[j]? with
      | some oj => match oj.dst with
        | some d => nthK regs d fun r => match r with
          | .s (.c (.v (.bool t))) => Br (t == want) go (setD regs o.dst .un fun regs' => runOps P Γ ops rest ⟨regs', bs, nx⟩ K)
          | .un => setD regs o.dst .un fun regs' => runOps P Γ ops rest ⟨regs', bs, nx⟩ K
          | _ => False
        | none => False
      | none => False
end Go.Eng
namespace Go.Eng
open Go
theorem nthK_spec {α : Type} : ∀ (l : List α) (n : Nat) (k : α → Prop), nthK l n k → ∃ x, l[n]? = some x ∧ k x
  | [], _, _, h => h.elim
  | x :: _, 0, _, h => ⟨x, rfl, h⟩
  | _ :: l, n + 1, k, h => by
    obtain ⟨x, h1, h2⟩ := nthK_spec l n k h
    exact ⟨x, by simpa using h1, h2⟩
theorem setK_spec {α : Type} : ∀ (l : List α) (n : Nat) (v : α) (k : List α → Prop), setK l n v k → n < l.length ∧ k (l.set n v)
  | [], _, _, _, h => h.elim
  | _ :: l, 0, v, k, h => ⟨by simp, h⟩
  | x :: l, n + 1, v, k, h => by
    obtain ⟨h1, h2⟩ := setK_spec l n v _ h
    exact ⟨by simp; omega, h2⟩
theorem lookK_spec : ∀ (l : List (Nat × Blk)) (j : Nat) (k : Blk → Prop), lookK l j k → ∃ b, look l j = some b ∧ k b
  | [], _, _, h => h.elim
  | (i, b) :: r, j, k, h => by
    unfold lookK at h
    by_cases e : i = j
    · subst e
      rw [Nat.beq_refl] at h
      exact ⟨b, by simp [look], h⟩
    · have : Nat.beq i j = false := by
        cases hb : Nat.beq i j with
        | false => rfl
        | true => exact (e (Nat.eq_of_beq_eq_true hb)).elim
      rw [this] at h
      obtain ⟨b', h1, h2⟩ := lookK_spec r j k h
      exact ⟨b', by simp [look, e, h1], h2⟩
theorem beq_false_of_ne {i j : Nat} (e : ¬ i = j) : Nat.beq i j = false := by
  cases hb : Nat.beq i j with
  | false => rfl
  | true => exact (e (Nat.eq_of_beq_eq_true hb)).elim
theorem putK_spec : ∀ (l : List (Nat × Blk)) (j : Nat) (x : Blk) (k : List (Nat × Blk) → Prop), putK l j x k → ∃ l', k l' ∧ ∀ i, look l' i = if j = i then some x else look l i
  | [], j, x, k, h => ⟨_, h, fun i => by simp [look]⟩
  | (i, b) :: r, j, x, k, h => by
    unfold putK at h
    by_cases e : i = j
    · subst e
      rw [Nat.beq_refl] at h
      exact ⟨_, h, fun m => by simp only [look]; split <;> simp_all⟩
    · rw [beq_false_of_ne e] at h
      obtain ⟨l', h1, h2⟩ := putK_spec r j x _ h
      refine ⟨_, h1, fun m => ?_⟩
      simp only [look, h2]
      by_cases e1 : i = m
      · subst e1; simp [Ne.symm e]
      · simp [e1]
theorem look_append (a b : List (Nat × Blk)) (j : Nat) : look (a ++ b) j = (look a j).or (look b j) := by
  induction a with
  | nil => simp [look]
  | cons x a ih =>
    obtain ⟨i, y⟩ := x
    simp only [List.cons_append, look]
    split <;> simp_all
theorem putsK_spec : ∀ (ps l : List (Nat × Blk)) (k : List (Nat × Blk) → Prop), putsK l ps k → ∃ l', k l' ∧ ∀ i, look l' i = look (ps ++ l) i
  | [], l, k, h => ⟨l, h, fun _ => rfl⟩
  | (j, b) :: r, l, k, h => by
    obtain ⟨l1, h1, h2⟩ := putsK_spec r l _ h
    obtain ⟨l2, h3, h4⟩ := putK_spec l1 j b _ h1
    refine ⟨l2, h3, fun i => ?_⟩
    rw [h4, h2]
    simp only [List.cons_append, look]
theorem litK_spec : ∀ (f m n : Nat) (k : Nat → Prop), litK f m n k → k n
  | 0, _, _, _, h => h
  | f + 1, m, n, k, h => by
    unfold litK at h
    by_cases e : m = n
    · subst e; rw [Nat.beq_refl] at h; exact h
    · rw [beq_false_of_ne e] at h
      exact litK_spec f _ n k h
theorem cellK_spec (c : Cell) (k : Cell → Prop) (h : cellK c k) : k c := by
  cases c with
  | v x => cases x <;> exact h
  | _ => exact h
theorem cellsK_spec : ∀ (g : Nat → Cell) (n i : Nat) (k : List Cell → Prop), cellsK g i n k → ∃ l, k l ∧ l.length = n ∧ ∀ t, t < n → l[t]? = some (g (i + t))
  | _, 0, _, k, h => ⟨[], h, rfl, fun t ht => by omega⟩
  | g, n + 1, i, k, h => by
    have h := cellK_spec _ _ h
    obtain ⟨l, h1, h2, h3⟩ := cellsK_spec g n (i + 1) _ h
    refine ⟨_, h1, by simp [h2], fun t ht => ?_⟩
    cases t with
    | zero => simp
    | succ t => simp only [List.getElem?_cons_succ]; rw [h3 t (by omega), show i + 1 + t = i + (t + 1) by omega]
theorem subK_spec : ∀ (l : List Cell) (i n : Nat) (k : List Cell → Prop), subK l i n k → ∃ r, k r ∧ r.length = n ∧ i + n ≤ l.length ∧ ∀ t, t < n → r[t]? = l[i + t]?
  | [], 0, 0, k, h => ⟨[], h, rfl, by simp, fun t ht => by omega⟩
  | c :: l, 0, 0, k, h => ⟨[], h, rfl, by simp, fun t ht => by omega⟩
  | [], _ + 1, _, _, h => h.elim
  | [], 0, _ + 1, _, h => h.elim
  | _ :: l, i + 1, n, k, h => by
    obtain ⟨r, h1, h2, h3, h4⟩ := subK_spec l i n k h
    refine ⟨r, h1, h2, by simp; omega, fun t ht => ?_⟩
    rw [h4 t ht, show i + 1 + t = (i + t) + 1 by omega]; rfl
  | c :: l, 0, n + 1, k, h => by
    obtain ⟨r, h1, h2, h3, h4⟩ := subK_spec l 0 n _ h
    refine ⟨_, h1, by simp [h2], by simp; omega, fun t ht => ?_⟩
    cases t with
    | zero => simp
    | succ t => simp only [List.getElem?_cons_succ]; rw [h4 t (by omega), show 0 + (t + 1) = (0 + t) + 1 by omega]; rfl
theorem ovrK_spec : ∀ (l : List Cell) (i : Nat) (vs : List Cell) (k : List Cell → Prop), ovrK l i vs k →
    ∃ r, k r ∧ r.length = l.length ∧ i + vs.length ≤ l.length ∧ ∀ t, r[t]? = if i ≤ t ∧ t < i + vs.length then vs[t - i]? else l[t]?
  | [], 0, [], k, h => ⟨[], h, rfl, by simp, fun t => by simp⟩
  | c :: l, 0, [], k, h => ⟨c :: l, h, rfl, by simp, fun t => by rw [if_neg (by simp)]⟩
  | [], _ + 1, _, _, h => h.elim
  | [], 0, _ :: _, _, h => h.elim
  | x :: l, i + 1, vs, k, h => by
    obtain ⟨r, h1, h2, h3, h4⟩ := ovrK_spec l i vs _ h
    refine ⟨_, h1, by simp [h2], by simp; omega, fun t => ?_⟩
    cases t with
    | zero => simp
    | succ t =>
      simp only [List.getElem?_cons_succ, h4]
      by_cases e : i ≤ t ∧ t < i + vs.length
      · rw [if_pos e, if_pos (by omega)]; congr 1; omega
      · rw [if_neg e, if_neg (by omega)]
  | y :: l, 0, v :: vs, k, h => by
    obtain ⟨r, h1, h2, h3, h4⟩ := ovrK_spec l 0 vs _ h
    refine ⟨_, h1, by simp [h2], by simp; omega, fun t => ?_⟩
    cases t with
    | zero => simp
    | succ t =>
      simp only [List.getElem?_cons_succ, h4]
      by_cases e : 0 ≤ t ∧ t < 0 + vs.length
      · rw [if_pos e, if_pos (by simp; omega)]; simp
      · rw [if_neg e, if_neg (by simp; omega)]
theorem valsK_spec : ∀ (l : List Value) (k : List Cell → Prop), valsK l k → k (l.map .v) ∧ ∀ v ∈ l, v.oneCell' = true
  | [], _, h => ⟨h, by simp⟩
  | v :: l, k, h => by
    unfold valsK at h
    cases hv : v.oneCell' with
    | false => rw [hv] at h; exact h.elim
    | true =>
      rw [hv] at h
      obtain ⟨h1, h2⟩ := valsK_spec l _ h
      refine ⟨h1, fun x hx => ?_⟩
      rcases List.mem_cons.1 hx with rfl | hx
      · exact hv
      · exact h2 x hx
def ofV : Value → RV
  | .agg cs => .s (.agg (cs.toList.map .v))
  | v => .s (.c (.v v))
def flatV : Value → Prop
  | .agg cs => ∀ v ∈ cs.toList, v.oneCell' = true
  | v => v.oneCell' = true
def Opd (regs : List RV) (x : Operand) (rv : RV) : Prop :=
  match x with
  | .tmp t => regs[t]? = some rv
  | .const v => rv = ofV v ∧ flatV v
  | .func f => rv = .s (.c (.fn f []))
  | .global _ => False
theorem opK_spec (regs : List RV) (x : Operand) (k : RV → Prop) (h : opK regs x k) : ∃ rv, Opd regs x rv ∧ k rv := by
  cases x with
  | tmp t => exact nthK_spec _ _ _ h
  | const v =>
    cases v with
    | agg cs =>
      obtain ⟨h1, h2⟩ := valsK_spec _ _ h
      exact ⟨_, ⟨rfl, h2⟩, h1⟩
    | tuple _ => exact h.elim
    | _ => exact ⟨_, ⟨rfl, rfl⟩, h⟩
  | func f => exact ⟨_, rfl, h⟩
  | global g => exact h.elim
theorem opsK_spec (regs : List RV) : ∀ (l : List Operand) (k : List RV → Prop), opsK regs l k → ∃ vs, k vs ∧ vs.length = l.length ∧ ∀ (i : Nat) x v, l[i]? = some x → vs[i]? = some v → Opd regs x v
  | [], k, h => ⟨[], h, rfl, fun i x v hx => by simp at hx⟩
  | x :: l, k, h => by
    obtain ⟨v, h1, h2⟩ := opK_spec regs x _ h
    obtain ⟨vs, h3, h4, h5⟩ := opsK_spec regs l _ h2
    refine ⟨_, h3, by simp [h4], fun i y u hy hu => ?_⟩
    cases i with
    | zero => simp at hy hu; subst hy; subst hu; exact h1
    | succ i => simp at hy hu; exact h5 i y u hy hu
theorem closedK_spec : ∀ (l : List Cell) (k : Prop), closedK l k → (∀ c ∈ l, c.closed = true) ∧ k
  | [], _, h => ⟨by simp, h⟩
  | c :: l, k, h => by
    unfold closedK at h
    cases hc : c.closed with
    | false => rw [hc] at h; exact h.elim
    | true =>
      rw [hc] at h
      obtain ⟨h1, h2⟩ := closedK_spec l k h
      refine ⟨fun x hx => ?_, h2⟩
      rcases List.mem_cons.1 hx with rfl | hx
      · exact hc
      · exact h1 x hx
theorem intsK_spec : ∀ (l : List Cell) (i n : Nat) (k : List Int → Prop), intsK l i n k → ∃ xs, k xs ∧ xs.length = n ∧ i + n ≤ l.length ∧ ∀ t, t < n → l[i + t]? = some (.v (.int .i64 (xs.getD t 0)))
  | [], 0, 0, k, h => ⟨[], h, rfl, by simp, fun t ht => by omega⟩
  | c :: l, 0, 0, k, h => ⟨[], h, rfl, by simp, fun t ht => by omega⟩
  | [], _ + 1, _, _, h => h.elim
  | [], 0, _ + 1, _, h => h.elim
  | _ :: l, i + 1, n, k, h => by
    obtain ⟨r, h1, h2, h3, h4⟩ := intsK_spec l i n k h
    refine ⟨r, h1, h2, by simp; omega, fun t ht => ?_⟩
    rw [← h4 t ht, show i + 1 + t = (i + t) + 1 by omega]; rfl
  | c :: l, 0, n + 1, k, h => by
    unfold intsK at h
    split at h
    · rename_i x
      obtain ⟨r, h1, h2, h3, h4⟩ := intsK_spec l 0 n _ h
      refine ⟨_, h1, by simp [h2], by simp; omega, fun t ht => ?_⟩
      cases t with
      | zero => simp
      | succ t => rw [show 0 + (t + 1) = (0 + t) + 1 by omega, List.getElem?_cons_succ, h4 t (by omega)]; simp
    · exact h.elim
theorem setIntsK_spec (i v : Int) : ∀ (l : List Int) (m : Nat) (k : List Cell → Prop), setIntsK i v l m k →
    ∃ cs, k cs ∧ cs.length = l.length ∧ ∀ t, t < l.length → cs[t]? = some (.v (.int .i64 (if i = ((m + t : Nat) : Int) then v else l.getD t 0)))
  | [], _, k, h => ⟨[], h, rfl, fun t ht => by simp at ht⟩
  | x :: l, m, k, h => by
    obtain ⟨cs, h1, h2, h3⟩ := setIntsK_spec i v l (m + 1) _ h
    refine ⟨_, h1, by simp [h2], fun t ht => ?_⟩
    cases t with
    | zero => simp
    | succ t =>
      simp only [List.getElem?_cons_succ]
      rw [h3 t (by simpa using ht), show m + 1 + t = m + (t + 1) by omega]
      simp
end Go.Eng
namespace Go.Eng
open Go
/-- What a run of one operation yields, a call by its contract. -/
def Yield (P : Program) (R : Value → World → Prop) : Result Next → Prop
  | .ok (.value v) w' => R v w'
  | .ok .skip w' => R undef w'
  | .ok (.enter f args) w' => Calls P f args w' fun e w'' => ∃ v, e = .returned v ∧ R v w''
  | _ => False
structure Good (P : Program) (o : Oper) (regs : List RV) (bs : List (Nat × Blk)) (nx : Nat) (rv : RV) (rd pre pb : List (Nat × Blk)) (nx' : Nat) : Prop where
  sub : Sub (look (pre ++ rd)) (look bs)
  dom : ∀ j b, look (pre ++ rd) j = some b → ∃ b', look (pb ++ rd) j = some b'
  new : ∀ j b, look (pb ++ rd) j = some b → (∃ b0, look (pre ++ rd) j = some b0) ∨ (nx ≤ j ∧ j < nx')
  le : nx ≤ nx'
  run : ∀ (F : Nat → Prop) (hs : Names) (ρ : Operand → Value) (w : World),
    (∀ x ∈ o.op.operands, ∀ v, Opd regs x v → RVRel (Osum F hs (look (pre ++ rd))) w v hs (ρ x)) →
    WRep F hs (look (pre ++ rd)) w → (∀ j, nx ≤ j → j < nx' → hs j = none) →
    Yield P (Post F hs (look (pre ++ rd)) w rv (look (pb ++ rd)) nx nx') ((execOp ρ o).run P w)
theorem post_same {F : Nat → Prop} {hs : Names} {B : Mem} {w : World} {rv : RV} {nx : Nat} {v : Value} (hw : WRep F hs B w)
    (hr : RVRel (Osum F hs B) w rv hs v) : Post F hs B w rv B nx nx v w :=
  ⟨hs, hr, hw, fun _ _ h => h, fun _ _ => rfl, Fr.refl _ _, fun _ h => .inl h⟩
section
variable {P : Program} {o : Oper} {regs : List RV} {bs : List (Nat × Blk)} {nx : Nat} {rv : RV} {rd : List (Nat × Blk)}
theorem good_pure (hsub : Sub (look rd) (look bs))
    (hrun : ∀ (F : Nat → Prop) (hs : Names) (ρ : Operand → Value) (w : World),
      (∀ x ∈ o.op.operands, ∀ v, Opd regs x v → RVRel (Osum F hs (look rd)) w v hs (ρ x)) → WRep F hs (look rd) w →
      ∃ v, (execOp ρ o).run P w = .ok (.value v) w ∧ RVRel (Osum F hs (look rd)) w rv hs v) : Good P o regs bs nx rv rd [] [] nx where
  sub := hsub
  dom := fun j b h => ⟨b, h⟩
  new := fun j b h => .inl ⟨b, h⟩
  le := Nat.le_refl _
  run := fun F hs ρ w hx hw hf => by
    obtain ⟨v, h1, h2⟩ := hrun F hs ρ w hx hw
    rw [h1]
    exact post_same hw h2
theorem sub_nil (B : Mem) : Sub (look []) B := fun j b h => by simp [look] at h
theorem sub_one {j : Nat} {b : Blk} (h : look bs j = some b) : Sub (look [(j, b)]) (look bs) := fun i c hc => by
  simp only [look] at hc
  split at hc
  · rename_i e; subst e; cases hc; exact h
  · cases hc
theorem good_move {x : Operand} (ho : o.op = .move x ∨ o.op = .assign x) (hv : Opd regs x rv) : Good P o regs bs nx rv [] [] [] nx := by
  refine good_pure (sub_nil _) fun F hs ρ w hx hw => ⟨ρ x, ?_, hx x ?_ rv hv⟩
  · rcases ho with ho | ho <;> simp [execOp, ho]
  · rcases ho with ho | ho <;> simp [ho, Op.operands]
theorem rel_v {O : Nat → Prop} {w : World} {hs : Names} {x u : Value} (h : RVRel O w (.s (.c (.v x))) hs u) : u = x := h.1
theorem good_pick {c a b : Operand} {t : Bool} (ho : o.op = .pick c a b) (hc : Opd regs c (.s (.c (.v (.bool t))))) {va vb : RV} (ha : Opd regs a va) (hb : Opd regs b vb)
    (hr : rv = if t then va else vb) : Good P o regs bs nx rv [] [] [] nx := by
  refine good_pure (sub_nil _) fun F hs ρ w hx hw => ⟨if t then ρ a else ρ b, ?_, ?_⟩
  · have h1 := rel_v (hx c (by simp [ho, Op.operands]) _ hc)
    simp [execOp, ho, h1, asBool]
  · subst hr
    cases t
    · exact hx b (by simp [ho, Op.operands]) _ hb
    · exact hx a (by simp [ho, Op.operands]) _ ha
theorem good_extract {x : Operand} {ix : Nat} {l : List Sv} {s : Sv} (ho : o.op = .extract x ix) (hx : Opd regs x (.tup l)) (hl : l[ix]? = some s) : Good P o regs bs nx (.s s) [] [] [] nx := by
  refine good_pure (sub_nil _) fun F hs ρ w hr hw => ?_
  obtain ⟨vs, h1, h2, h3⟩ := hr x (by simp [ho, Op.operands]) _ hx
  have hlt : ix < vs.size := by rw [h2]; exact (List.getElem?_eq_some_iff.1 hl).1
  refine ⟨vs[ix], ?_, h3 ix s vs[ix] hl (Array.getElem?_eq_getElem hlt)⟩
  simp [execOp, ho, h1, Instr.extract, Array.getElem?_eq_getElem hlt]
theorem good_unOp_not {x : Operand} {t : TypeId} {b : Bool} (ho : o.op = .unOp .not t x) (hx : Opd regs x (.s (.c (.v (.bool b))))) :
    Good P o regs bs nx (.s (.c (.v (.bool !b)))) [] [] [] nx := by
  refine good_pure (sub_nil _) fun F hs ρ w hr hw => ⟨.bool !b, ?_, rfl, rfl⟩
  have h1 := rel_v (hr x (by simp [ho, Op.operands]) _ hx)
  simp [execOp, ho, h1, Op.unary]
theorem good_unOp_neg {x : Operand} {t : TypeId} {q : IntKind} {n : Int} (ho : o.op = .unOp .neg t x) (hx : Opd regs x (.s (.c (.v (.int q n))))) :
    Good P o regs bs nx (.s (.c (.v (.int q (q.wrap (0 - n)))))) [] [] [] nx := by
  refine good_pure (sub_nil _) fun F hs ρ w hr hw => ⟨.int q (q.wrap (0 - n)), ?_, rfl, rfl⟩
  have h1 := rel_v (hr x (by simp [ho, Op.operands]) _ hx)
  simp [execOp, ho, h1, Op.unary, Op.intArith]
theorem good_convert {x : Operand} {s d : TypeId} {q q' : IntKind} {n : Int} (ho : o.op = .convert s d x) (hd : P.underlying d = some (.int q)) (hs : (P.underlying s).isSome = true) (hx : Opd regs x (.s (.c (.v (.int q' n))))) :
    Good P o regs bs nx (.s (.c (.v (.int q (q.wrap n))))) [] [] [] nx := by
  refine good_pure (sub_nil _) fun F hs' ρ w hr hw => ⟨.int q (q.wrap n), ?_, rfl, rfl⟩
  have h1 := rel_v (hr x (by simp [ho, Op.operands]) _ hx)
  obtain ⟨ds, hds⟩ := Option.isSome_iff_exists.1 hs
  simp [execOp, ho, h1, convert, run_underlying hd, run_underlying hds, Conv.intToInt]
theorem intOp_spec {op : BinOp} {q : IntKind} {a b : Int} {k : Value → Prop} (h : intOp op q a b k) :
    ∃ v, k v ∧ v.oneCell' = true ∧ ∀ (w : World) (t : TypeId) (x y : Operand), (do eqGuard op t x y (.int q a) (.int q b); binOp op t (.int q a) (.int q b) : Sem Value).run P w = .ok v w := by
  cases op <;> simp only [intOp, Need] at h <;> first
    | exact h.elim
    | (refine ⟨_, h, rfl, fun w t x y => ?_⟩; simp [eqGuard, binOp, Op.intArith, Op.intBits, Op.intCmp, Go.bits]; done)
    | (refine ⟨_, h.2, rfl, fun w t x y => ?_⟩; have h0 := h.1; simp [eqGuard, binOp, Op.intDiv, h0]; done)
theorem good_binInt {op : BinOp} {x y : Operand} {t t' : TypeId} {q : IntKind} {a b : Int} {k : Value → Prop} (ho : o.op = .binOp op t x y t')
    (hx : Opd regs x (.s (.c (.v (.int q a))))) (hy : Opd regs y (.s (.c (.v (.int q b))))) (h : intOp op q a b k) : ∃ v, k v ∧ Good P o regs bs nx (.s (.c (.v v))) [] [] [] nx := by
  obtain ⟨v, h1, hone, h2⟩ := intOp_spec (P := P) h
  refine ⟨v, h1, good_pure (sub_nil _) fun F hs ρ w hr hw => ⟨v, ?_, rfl, hone⟩⟩
  have e1 := rel_v (hr x (by simp [ho, Op.operands]) _ hx)
  have e2 := rel_v (hr y (by simp [ho, Op.operands]) _ hy)
  have h3 := h2 w t x y
  simp only [execOp, ho, e1, e2]
  rw [Sem.run_bind, h3]
  rfl
theorem good_makeFunc {f : FuncId} {first captured : Array Operand} {vs : List RV} {cs : List Cap} (ho : o.op = .makeFunc (.func f) first captured) (h0 : first.size = 0)
    (hl : vs.length = captured.size) (hv : ∀ (i : Nat) x v, captured[i]? = some x → vs[i]? = some v → Opd regs x v) (hc : vs = cs.map Cap.rv) :
    Good P o regs bs nx (.s (.c (.fn f cs))) [] [] [] nx := by
  refine good_pure (sub_nil _) fun F hs ρ w hr hw => ⟨.func (.func f) (first.map ρ) (captured.map ρ), ?_, ?_⟩
  · simp [execOp, ho, Instr.makeFunc]
  · have hf : first = #[] := Array.eq_empty_of_size_eq_zero h0
    subst hf
    refine ⟨captured.map ρ, by simp, by rw [Array.size_map, ← hl, hc, List.length_map], fun i c x hc' hx => ?_⟩
    simp only [Array.getElem?_map, Option.map_eq_some_iff] at hx
    obtain ⟨y, hy, rfl⟩ := hx
    have hvi : vs[i]? = some c.rv := by rw [hc, List.getElem?_map, hc']; rfl
    have hmem : y ∈ o.op.operands := by simp only [ho, Op.operands, Array.empty_append]; exact Array.mem_of_getElem? hy
    have := hr y hmem _ (hv i y _ hy hvi)
    cases c with
    | v z => exact this
    | ptr j off => exact this
theorem good_makeFuncB {f : FuncId} {first captured : Array Operand} {vs : List RV} {cs : List Cap} (ho : o.op = .makeFunc (.func f) first captured) (h0 : captured.size = 0)
    (hl : vs.length = first.size) (hv : ∀ (i : Nat) x v, first[i]? = some x → vs[i]? = some v → Opd regs x v) (hc : vs = cs.map Cap.rv) :
    Good P o regs bs nx (.s (.c (.bfn f cs))) [] [] [] nx := by
  refine good_pure (sub_nil _) fun F hs ρ w hr hw => ⟨.func (.func f) (first.map ρ) (captured.map ρ), ?_, ?_⟩
  · simp [execOp, ho, Instr.makeFunc]
  · have hf : captured = #[] := Array.eq_empty_of_size_eq_zero h0
    subst hf
    refine ⟨first.map ρ, by simp, by rw [Array.size_map, ← hl, hc, List.length_map], fun i c x hc' hx => ?_⟩
    simp only [Array.getElem?_map, Option.map_eq_some_iff] at hx
    obtain ⟨y, hy, rfl⟩ := hx
    have hvi : vs[i]? = some c.rv := by rw [hc, List.getElem?_map, hc']; rfl
    have hmem : y ∈ o.op.operands := by simp only [ho, Op.operands, Array.append_empty]; exact Array.mem_of_getElem? hy
    have := hr y hmem _ (hv i y _ hy hvi)
    cases c with
    | v z => exact this
    | ptr j off => exact this
theorem rel_ptr {O : Nat → Prop} {w : World} {hs : Names} {j off : Nat} {u : Value} (h : RVRel O w (.s (.c (.ptr j off))) hs u) : ∃ b, hs j = some (.pointer (some ⟨b, 0, none⟩)) ∧ u = .pointer (some ⟨b, off, none⟩) := h
theorem addr_add (b off n : Nat) : (⟨b, off, none⟩ : Addr).add n = ⟨b, off + n, none⟩ := by
  unfold Addr.add; split <;> simp_all
theorem good_arrPtr {x : Operand} {d e : TypeId} {n j off m q : Nat} (ho : o.op = .sliceToArrayPointer d x) (hd : P.underlying d = some (.array n e)) (hle : n ≤ m) (hx : Opd regs x (.s (.c (.psl j off m q)))) :
    Good P o regs bs nx (.s (.c (.ptr j off))) [] [] [] nx := by
  refine good_pure (sub_nil _) fun F hs ρ w hr hw => ?_
  obtain ⟨b, cap, h1, h2, h3⟩ := hr x (by simp [ho, Op.operands]) _ hx
  have h3 : ρ x = .slice (some ⟨b, off, none⟩) m cap := h3
  refine ⟨.pointer (some ⟨b, off, none⟩), ?_, ⟨b, h1, rfl⟩⟩
  simp [execOp, ho, Instr.arrayAt, run_underlying hd, h3, show ¬ m < n by omega]
theorem good_nilCheck {x : Operand} (ho : o.op = .nilCheck x) (hx : Opd regs x rv) (hp : ∀ O w hs u, RVRel O w rv hs u → (∃ a, u = .pointer (some a)) ∨ (∃ f c, u = .func (.func f) #[] c)) :
    Good P o regs bs nx rv [] [] [] nx := by
  refine good_pure (sub_nil _) fun F hs ρ w hr hw => ⟨ρ x, ?_, hr x (by simp [ho, Op.operands]) _ hx⟩
  rcases hp _ _ _ _ (hr x (by simp [ho, Op.operands]) _ hx) with ⟨a, h⟩ | ⟨f, c, h⟩ <;> simp [execOp, ho, h]
theorem run_fieldAt {s : TypeId} {fs : Array Field} {f : Nat} {fl : Field} {i : TypeInfo} (h1 : P.underlying s = some (.struct fs)) (h2 : fs[f]? = some fl) (h3 : P.info? fl.type = some i) (h4 : ¬ i.size = 0)
    (w : World) (a : Addr) : (Instr.fieldAt s (.pointer (some a)) f).run P w = .ok (.pointer (some (a.add fl.offset))) w := by
  simp [Instr.fieldAt, run_underlying h1, h2, Instr.sureAddr, fieldPlace, sizeOf, typeInfo, h3, h4]
theorem fieldK_spec {s : TypeId} {f : Nat} {k : Field → Nat → Prop} (h : fieldK P s f k) :
    ∃ fs fl i, P.underlying s = some (.struct fs) ∧ fs[f]? = some fl ∧ P.info? fl.type = some i ∧ ¬ i.size = 0 ∧ k fl i.size := by
  unfold fieldK at h
  split at h
  · rename_i fs h1
    split at h
    · rename_i fl h2
      split at h
      · rename_i i h3
        split at h
        · exact h.elim
        · rename_i h4
          refine ⟨fs, fl, i, h1, h2, h3, fun e => ?_, h⟩
          rw [e] at h4; cases h4
      · exact h.elim
    · exact h.elim
  · exact h.elim
theorem good_fieldAddr {x : Operand} {s : TypeId} {f : Nat} {va : RV} {k : RV → Prop} (ho : o.op = .fieldAddr s x f) (hx : Opd regs x va)
    (h : fieldK P s f fun fl n => fieldAddrK va fl.offset n k) : ∃ v, k v ∧ Good P o regs bs nx v [] [] [] nx := by
  obtain ⟨fs, fl, i, h1, h2, h3, h4, h5⟩ := fieldK_spec h
  have hm : x ∈ o.op.operands := by simp [ho, Op.operands]
  have key : ∀ (v : RV), (∀ O w hs u, RVRel O w va hs u → ∃ a, u = .pointer (some a) ∧ RVRel O w v hs (.pointer (some (a.add fl.offset)))) → Good P o regs bs nx v [] [] [] nx := by
    intro v hv
    refine good_pure (sub_nil _) fun F hs ρ w hr hw => ?_
    obtain ⟨a, ha, hra⟩ := hv _ _ _ _ (hr x hm _ hx)
    refine ⟨_, ?_, hra⟩
    simp only [execOp, ho, ha]
    rw [Sem.run_bind, run_fieldAt h1 h2 h3 h4]
    rfl
  unfold fieldAddrK at h5
  split at h5
  · rename_i j off
    have h5 := litK_spec _ _ _ _ h5
    refine ⟨_, h5, key _ fun O w hs u hu => ?_⟩
    obtain ⟨b, hb, rfl⟩ := rel_ptr hu
    exact ⟨_, rfl, b, hb, by rw [addr_add]⟩
  · rename_i q g
    split at h5
    · rename_i hle
      have hle := Nat.le_of_ble_eq_true hle
      have h5 := litK_spec _ _ _ _ h5
      refine ⟨_, h5, key _ fun O w hs u hu => ?_⟩
      obtain ⟨b, off, rfl, h6, h7, h8⟩ := hu
      refine ⟨_, rfl, b, off + fl.offset, by rw [addr_add], h6, h7, fun t ht => ?_⟩
      obtain ⟨y, hy, hry⟩ := h8 (fl.offset + t) (by omega)
      exact ⟨y, by rw [Nat.add_assoc]; exact hy, hry⟩
    · exact h5.elim
  · rename_i j q i t
    have h5 := litK_spec _ _ _ _ h5
    refine ⟨_, h5, key _ fun O w hs u hu => ?_⟩
    obtain ⟨b, n, cap, hb, hi, rfl⟩ := hu
    exact ⟨_, rfl, b, n, cap, hb, hi, by rw [addr_add, Nat.add_assoc]⟩
  · rename_i j base len m i
    have h5 := litK_spec _ _ _ _ h5
    refine ⟨_, h5, key _ fun O w hs u hu => ?_⟩
    obtain ⟨b, hb, hi0, hi1, rfl⟩ := hu
    exact ⟨_, rfl, b, hb, hi0, hi1, by rw [addr_add]; congr 3; omega⟩
  · exact h5.elim
theorem sizeK_spec {t : TypeId} {k : Nat → Prop} (h : sizeK P t k) : ∃ i, P.info? t = some i ∧ k i.size := by
  unfold sizeK at h
  split at h
  · rename_i i hi; exact ⟨i, hi, h⟩
  · exact h.elim
theorem run_sizeOf {t : TypeId} {i : TypeInfo} (h : P.info? t = some i) (w : World) : (sizeOf t).run P w = .ok i.size w := by
  simp [sizeOf, typeInfo, h]
end
end Go.Eng
namespace Go.Eng
open Go
section
variable {P : Program} {o : Oper} {regs : List RV} {bs : List (Nat × Blk)} {nx : Nat} {rv : RV} {rd : List (Nat × Blk)}
theorem run_isAgg {t : TypeId} {b : Bool} (h : isAggT P t = some b) (w : World) : (isAgg t).run P w = .ok b w := by
  unfold isAggT at h
  unfold isAgg
  rw [Sem.run_bind]
  cases hd : P.underlying t with
  | none => rw [hd] at h; cases h
  | some d =>
    rw [run_underlying hd]
    rw [hd] at h
    cases d <;> (cases h; rfl)
theorem load_agg {O : Nat → Prop} {w : World} {hs : Names} {t : TypeId} {i : TypeInfo} (h1 : isAggT P t = some true) (h2 : P.info? t = some i) (b off : Nat) (cs : List Cell) (hlen : cs.length = i.size)
    (hc : ∀ (j : Nat) c, cs[j]? = some c → ∃ x, w.cell? ⟨b, off + j, none⟩ = some x ∧ Rel O w c hs x) :
    ∃ v, (Instr.loadAt t (.pointer (some ⟨b, off, none⟩))).run P w = .ok v w ∧ RVRel O w (.s (.agg cs)) hs v := by
  have hf : ∀ j, j < i.size → w.cell? ((⟨b, off, none⟩ : Addr).add j) = some ((w.cell? ⟨b, off + j, none⟩).getD undef) := by
    intro j hj
    obtain ⟨x, hx, _⟩ := hc j cs[j] (List.getElem?_eq_getElem (by omega))
    rw [addr_add, hx]; rfl
  refine ⟨.agg ((List.range i.size).map fun j => (w.cell? ⟨b, off + j, none⟩).getD undef).toArray, ?_, _, rfl, by simp [hlen], fun j c v hcj hv => ?_⟩
  · simp only [Instr.loadAt, Instr.sureAddr, Sem.run_bind, Sem.run_pure, Result.andThen_ok, loadVar, run_isAgg h1, if_true, run_sizeOf h2]
    rw [run_loadCells w _ _ _ hf]
    rfl
  · obtain ⟨x, hx, hr⟩ := hc j c hcj
    have hj : j < i.size := by rw [← hlen]; exact (List.getElem?_eq_some_iff.1 hcj).1
    simp [hj, hx] at hv
    subst hv
    exact hr
theorem load_one {w : World} {t : TypeId} {a : Addr} {x : Value} (h1 : isAggT P t = some false) (hc : w.cell? a = some x) :
    (Instr.loadAt t (.pointer (some a))).run P w = .ok x w := by
  simp only [Instr.loadAt, Instr.sureAddr, Sem.run_bind, Sem.run_pure, Result.andThen_ok, loadVar, run_isAgg h1, Bool.false_eq_true, if_false]
  simp [load, Sem.run, hc]
theorem row_of {F : Nat → Prop} {hs : Names} {B : Mem} {w : World} (hw : WRep F hs B w) {j : Nat} {ty : TypeId} {l : List Cell} (hj : B j = some (.row ty l)) :
    ∃ x cs, hs j = some (.pointer (some ⟨x, 0, none⟩)) ∧ w.heap[x]? = some (.cells cs ty (0, 0)) ∧ cs.size = l.length ∧
      ∀ (i : Nat) c, l[i]? = some c → ∃ u, cs[i]? = some u ∧ w.cell? ⟨x, i, none⟩ = some u ∧ Rel (Osum F hs B) w c hs u := by
  obtain ⟨h, hh, x, cs, h1, h2, h3, h4⟩ := hw.blk j _ hj
  subst h1
  refine ⟨x, cs, hh, h2, h3, fun i c hc => ?_⟩
  have hi : i < cs.size := by rw [h3]; exact (List.getElem?_eq_some_iff.1 hc).1
  exact ⟨cs[i], Array.getElem?_eq_getElem hi, by simp [World.cell?, h2, Array.getElem?_eq_getElem hi], h4 i c _ hc (Array.getElem?_eq_getElem hi)⟩
theorem slc_of {F : Nat → Prop} {hs : Names} {B : Mem} {w : World} (hw : WRep F hs B w) {j : Nat} {ty : TypeId} {q n : Nat} {g : Nat → Nat → Cell} (hj : B j = some (.slc ty q n g)) :
    ∃ a cap, hs j = some (.slice a n cap) ∧ n ≤ cap ∧ (0 < n → ∃ x cs, a = some ⟨x, 0, none⟩ ∧ w.heap[x]? = some (.cells cs ty (0, 0)) ∧ cs.size = cap * q ∧
      ∀ i, i < n → ∀ t, t < q → ∃ u, w.cell? ⟨x, i * q + t, none⟩ = some u ∧ Rel (Osum F hs B) w (g i t) noNames u) := by
  obtain ⟨h, hh, hr⟩ := hw.blk j _ hj
  rcases hr with ⟨rfl, rfl⟩ | ⟨x, cap, cs, rfl, h2, _, h3, h4, h5⟩
  · exact ⟨none, 0, hh, Nat.le_refl _, fun h => absurd h (by omega)⟩
  · refine ⟨_, cap, hh, h2, fun _ => ⟨x, cs, rfl, h3, h4, fun i hi t ht => ?_⟩⟩
    have hlt : i * q + t < cs.size := by
      rw [h4]
      calc i * q + t < i * q + q := by omega
        _ = (i + 1) * q := by rw [Nat.add_mul, Nat.one_mul]
        _ ≤ cap * q := Nat.mul_le_mul_right _ (by omega)
    exact ⟨cs[i * q + t], by simp [World.cell?, h3, Array.getElem?_eq_getElem hlt], h5 i hi t ht _ (Array.getElem?_eq_getElem hlt)⟩
theorem pickAll_spec : ∀ (l : List Cell) (base n m : Nat) (x : Int) (k : Cell → Prop), pickAll l base n m x k → ∀ t, t < n → x = ((m + t : Nat) : Int) → ∃ c, l[base + t]? = some c ∧ k c
  | _, 0, 0, _, _, _, _, t, ht, _ => by omega
  | [], _ + 1, _, _, _, _, h, _, _, _ => h.elim
  | [], 0, _ + 1, _, _, _, h, _, _, _ => h.elim
  | _ :: l, i + 1, n, m, x, k, h, t, ht, hx => by
    obtain ⟨c, h1, h2⟩ := pickAll_spec l i n m x k h t ht hx
    exact ⟨c, by rw [show i + 1 + t = (i + t) + 1 by omega]; simpa using h1, h2⟩
  | c :: l, 0, n + 1, m, x, k, h, t, ht, hx => by
    cases t with
    | zero => exact ⟨c, rfl, h.1 (by simpa using hx)⟩
    | succ t =>
      obtain ⟨c', h1, h2⟩ := pickAll_spec l 0 n (m + 1) x k h.2 t (by omega) (by rw [hx]; congr 1; omega)
      exact ⟨c', by rw [show 0 + (t + 1) = (0 + t) + 1 by omega]; simpa using h1, h2⟩
theorem strsK_spec {l : List Cell} {m : Nat} : ∀ (n i : Nat) (k : List ByteArray → Prop), strsK l m n i k → ∃ ss, k ss ∧ ss.length = n ∧ ∀ t, t < n → l[i + t * m]? = some (.v (.string (ss.getD t ByteArray.empty)))
  | 0, _, k, h => ⟨[], h, rfl, fun t ht => by omega⟩
  | n + 1, i, k, h => by
    obtain ⟨c, h1, h⟩ := nthK_spec _ _ _ h
    split at h
    · rename_i s
      have h := litK_spec _ _ _ _ h
      obtain ⟨ss, h2, h3, h4⟩ := strsK_spec n _ _ h
      refine ⟨s :: ss, h2, by simp [h3], fun t ht => ?_⟩
      cases t with
      | zero => simpa using h1
      | succ t =>
        have := h4 t (by omega)
        rw [show i + (t + 1) * m = i + m + t * m by rw [Nat.add_mul]; omega]
        simpa using this
    · exact h.elim
theorem good_load {a : Operand} {t : TypeId} {va : RV} {k : RV → List (Nat × Blk) → Prop} (ho : o.op = .load t a) (ha : Opd regs a va) (h : loadK P bs t va k) :
    ∃ v rd, k v rd ∧ Good P o regs bs nx v rd [] [] nx := by
  have hm : a ∈ o.op.operands := by simp [ho, Op.operands]
  have key : ∀ (v : RV) (rd : List (Nat × Blk)), Sub (look rd) (look bs) →
      (∀ F hs w u, WRep F hs (look rd) w → RVRel (Osum F hs (look rd)) w va hs u → ∃ x, (Instr.loadAt t u).run P w = .ok x w ∧ RVRel (Osum F hs (look rd)) w v hs x) →
      Good P o regs bs nx v rd [] [] nx := by
    intro v rd hs hv
    refine good_pure hs fun F hs ρ w hr hw => ?_
    obtain ⟨x, h1, h2⟩ := hv F hs w _ hw (hr a hm _ ha)
    exact ⟨x, by simp only [execOp, ho]; rw [Sem.run_bind, h1]; rfl, h2⟩
  unfold loadK at h
  split at h
  · -- a struct, out of a row
    rename_i j off hag
    obtain ⟨i, hi, h⟩ := sizeK_spec h
    obtain ⟨b, hb, h⟩ := lookK_spec _ _ _ h
    split at h
    · rename_i ty l
      obtain ⟨r, h1, h2, h3, h4⟩ := subK_spec _ _ _ _ h
      refine ⟨_, _, h1, key _ _ (sub_one hb) fun F hs w u hw hu => ?_⟩
      obtain ⟨b', hb', rfl⟩ := rel_ptr hu
      obtain ⟨x, cs, e1, e2, e3, e4⟩ := row_of hw (j := j) (ty := ty) (l := l) (by simp [look])
      rw [hb'] at e1; cases e1
      refine load_agg hag hi _ _ r h2 fun m c hc => ?_
      have hm' : m < i.size := by rw [← h2]; exact (List.getElem?_eq_some_iff.1 hc).1
      obtain ⟨u, _, h5, h6⟩ := e4 (off + m) c (by rw [← h4 m hm']; exact hc)
      exact ⟨u, h5, h6⟩
    · exact h.elim
  · rename_i j off hag
    obtain ⟨b, hb, h⟩ := lookK_spec _ _ _ h
    split at h
    · rename_i ty l
      obtain ⟨c, h1, h2⟩ := nthK_spec _ _ _ h
      refine ⟨_, _, h2, key _ _ (sub_one hb) fun F hs w u hw hu => ?_⟩
      obtain ⟨b', hb', rfl⟩ := rel_ptr hu
      obtain ⟨x, cs, e1, e2, e3, e4⟩ := row_of hw (j := j) (ty := ty) (l := l) (by simp [look])
      rw [hb'] at e1; cases e1
      obtain ⟨u, _, h5, h6⟩ := e4 off c h1
      exact ⟨u, load_one hag h5, h6⟩
    · exact h.elim
  · rename_i j base len i hag
    obtain ⟨b, hb, h⟩ := lookK_spec _ _ _ h
    split at h
    · rename_i ty l
      split at h
      · obtain ⟨xs, h1, h2, h3, h4⟩ := intsK_spec _ _ _ _ h
        refine ⟨_, _, h1, key _ _ (sub_one hb) fun F hs w u hw hu => ?_⟩
        obtain ⟨b', hb', hi0, hi1, rfl⟩ := hu
        obtain ⟨x, cs, e1, e2, e3, e4⟩ := row_of hw (j := j) (ty := ty) (l := l) (by simp [look])
        rw [hb'] at e1; cases e1
        obtain ⟨u, _, h5, h6⟩ := e4 (base + i.toNat) _ (h4 i.toNat (by omega))
        exact ⟨u, load_one hag h5, h6⟩
      · obtain ⟨⟨n1, n2⟩, h⟩ := h
        obtain ⟨c, hc, hk⟩ := pickAll_spec l base len 0 i _ h (i.toNat) (by omega) (by omega)
        refine ⟨_, _, hk, key _ _ (sub_one hb) fun F hs w u hw hu => ?_⟩
        obtain ⟨b', hb', hi0, hi1, rfl⟩ := hu
        obtain ⟨x, cs, e1, e2, e3, e4⟩ := row_of hw (j := j) (ty := ty) (l := l) (by simp [look])
        rw [hb'] at e1; cases e1
        obtain ⟨u, _, h5, h6⟩ := e4 (base + i.toNat) _ hc
        exact ⟨u, load_one hag h5, h6⟩
    · exact h.elim
  · rename_i j base len m i hag
    obtain ⟨b, hb, h⟩ := lookK_spec _ _ _ h
    split at h
    · rename_i ty l
      obtain ⟨ss, h1, h2, h3⟩ := strsK_spec _ _ _ h
      refine ⟨_, _, h1, key _ _ (sub_one hb) fun F hs w u hw hu => ?_⟩
      obtain ⟨b', hb', hi0, hi1, rfl⟩ := hu
      obtain ⟨x, cs, e1, e2, e3, e4⟩ := row_of hw (j := j) (ty := ty) (l := l) (by simp [look])
      rw [hb'] at e1; cases e1
      obtain ⟨u, _, h5, h6⟩ := e4 (base + i.toNat * m) _ (h3 i.toNat (by omega))
      exact ⟨u, load_one hag h5, h6⟩
    · exact h.elim
  · rename_i q g hag
    obtain ⟨i, hi, h⟩ := sizeK_spec h
    split at h
    · rename_i hle
      have hle := Nat.le_of_ble_eq_true hle
      obtain ⟨r, h1, h2, h3⟩ := cellsK_spec _ _ _ _ h
      refine ⟨_, _, h1, key _ _ (sub_nil _) fun F hs w u hw hu => ?_⟩
      obtain ⟨b, off, rfl, h4, h5, h6⟩ := hu
      refine load_agg hag hi _ _ r h2 fun m c hc => ?_
      have hm' : m < i.size := by rw [← h2]; exact (List.getElem?_eq_some_iff.1 hc).1
      rw [h3 m hm'] at hc; cases hc
      obtain ⟨x, h7, h8⟩ := h6 m (by omega)
      exact ⟨x, h7, by rw [Nat.zero_add]; exact Rel.mono (Nat.le_refl _) (fun _ _ _ => rfl) (fun _ h => .inl h) _ _ _ _ (fun _ _ h => by cases h) h8⟩
    · exact h.elim
  · rename_i q g hag
    split at h
    · rename_i hle
      have hle := Nat.le_of_ble_eq_true hle
      have h1 := cellK_spec _ _ h
      refine ⟨_, _, h1, key _ _ (sub_nil _) fun F hs w u hw hu => ?_⟩
      obtain ⟨b, off, rfl, h4, h5, h6⟩ := hu
      obtain ⟨x, h7, h8⟩ := h6 0 (by omega)
      exact ⟨x, load_one hag h7, Rel.mono (Nat.le_refl _) (fun _ _ _ => rfl) (fun _ h => .inl h) _ _ _ _ (fun _ _ h => by cases h) h8⟩
    · exact h.elim
  · rename_i j q i t0 hag
    obtain ⟨inf, hi, h⟩ := sizeK_spec h
    obtain ⟨b, hb, h⟩ := lookK_spec _ _ _ h
    split at h
    · rename_i ty q' m g
      split at h
      · rename_i hq hle
        have hle := Nat.le_of_ble_eq_true hle
        have hq := Nat.eq_of_beq_eq_true hq
        subst hq
        obtain ⟨him, h⟩ := h
        obtain ⟨r, h1, h2, h3⟩ := cellsK_spec _ _ _ _ h
        refine ⟨_, _, h1, key _ _ (sub_one hb) fun F hs w u hw hu => ?_⟩
        obtain ⟨b', n, cap, hb', _, rfl⟩ := hu
        obtain ⟨a', cap', e1, e2, e3⟩ := slc_of hw (j := j) (ty := ty) (q := q) (n := m) (g := g) (by simp [look])
        rw [hb'] at e1
        simp only [Option.some.injEq, Value.slice.injEq] at e1
        obtain ⟨rfl, rfl, rfl⟩ := e1
        obtain ⟨x, cs, e4, e5, e6, e7⟩ := e3 (by omega)
        cases e4
        refine load_agg hag hi _ _ r h2 fun v c hc => ?_
        have hm' : v < inf.size := by rw [← h2]; exact (List.getElem?_eq_some_iff.1 hc).1
        rw [h3 v hm'] at hc; cases hc
        obtain ⟨u, h7, h8⟩ := e7 i him (t0 + v) (by omega)
        exact ⟨u, by rw [Nat.add_assoc]; exact h7, Rel.mono (Nat.le_refl _) (fun _ _ _ => rfl) (fun _ h => .inl h) _ _ _ _ (fun _ _ h => by cases h) h8⟩
      · exact h.elim
    · exact h.elim
  · rename_i j q i t0 hag
    obtain ⟨b, hb, h⟩ := lookK_spec _ _ _ h
    split at h
    · rename_i ty q' m g
      split at h
      · rename_i hq hle
        have hle := Nat.le_of_ble_eq_true hle
        have hq := Nat.eq_of_beq_eq_true hq
        subst hq
        obtain ⟨him, h⟩ := h
        have h1 := cellK_spec _ _ h
        refine ⟨_, _, h1, key _ _ (sub_one hb) fun F hs w u hw hu => ?_⟩
        obtain ⟨b', n, cap, hb', _, rfl⟩ := hu
        obtain ⟨a', cap', e1, e2, e3⟩ := slc_of hw (j := j) (ty := ty) (q := q) (n := m) (g := g) (by simp [look])
        rw [hb'] at e1
        simp only [Option.some.injEq, Value.slice.injEq] at e1
        obtain ⟨rfl, rfl, rfl⟩ := e1
        obtain ⟨x, cs, e4, e5, e6, e7⟩ := e3 (by omega)
        cases e4
        obtain ⟨u, h7, h8⟩ := e7 i him t0 (by omega)
        exact ⟨u, load_one hag h7, Rel.mono (Nat.le_refl _) (fun _ _ _ => rfl) (fun _ h => .inl h) _ _ _ _ (fun _ _ h => by cases h) h8⟩
      · exact h.elim
    · exact h.elim
  · exact h.elim
theorem litI_spec {i : Int} {k : Nat → Prop} (h : litI i k) : ∃ n : Nat, i = n ∧ k n := by
  unfold litI at h
  split at h
  · exact ⟨_, rfl, litK_spec _ _ _ _ h⟩
  · exact h.elim
theorem rel_none {O : Nat → Prop} {w : World} {c : Cell} {hs : Names} {u : Value} (h : Rel O w c noNames u) : Rel O w c hs u :=
  Rel.mono (Nat.le_refl _) (fun _ _ _ => rfl) (fun _ h => .inl h) _ _ _ _ (fun _ _ h => by cases h) h
theorem run_indexAt_slice {t e : TypeId} {inf : TypeInfo} (ht : P.underlying t = some (.slice e)) (hi : P.info? e = some inf) (w : World) (q : IntKind) (i : Int) (b off n cap : Nat) (h : 0 ≤ i ∧ i < n) :
    (Instr.indexAt t (.slice (some ⟨b, off, none⟩) n cap) (.int q i)).run P w = .ok (.pointer (some ⟨b, off + i.toNat * inf.size, none⟩)) w := by
  simp [Instr.indexAt, asIntOf, run_underlying ht, h, sizeOf, typeInfo, hi, addr_add]
theorem run_indexAt_array {t e : TypeId} {len : Nat} {inf : TypeInfo} (ht : P.underlying t = some (.array len e)) (hi : P.info? e = some inf) (w : World) (q : IntKind) (i : Int) (b off : Nat) (h : 0 ≤ i ∧ i < len) :
    (Instr.indexAt t (.pointer (some ⟨b, off, none⟩)) (.int q i)).run P w = .ok (.pointer (some ⟨b, off + i.toNat * inf.size, none⟩)) w := by
  simp [Instr.indexAt, asIntOf, run_underlying ht, h, sizeOf, typeInfo, hi, addr_add, Instr.sureAddr]
theorem good_indexAddr {x ix : Operand} {t : TypeId} {vx : RV} {q : IntKind} {i : Int} {lit : Bool} {k : RV → List (Nat × Blk) → Prop} (ho : o.op = .indexAddr t x ix) (hx : Opd regs x vx)
    (hi : Opd regs ix (.s (.c (.v (.int q i))))) (h : indexAddrK P bs t vx lit i k) : ∃ v rd, k v rd ∧ Good P o regs bs nx v rd [] [] nx := by
  have hm : x ∈ o.op.operands := by simp [ho, Op.operands]
  have hm' : ix ∈ o.op.operands := by simp [ho, Op.operands]
  have key : ∀ (v : RV) (rd : List (Nat × Blk)), Sub (look rd) (look bs) →
      (∀ F hs w u, WRep F hs (look rd) w → RVRel (Osum F hs (look rd)) w vx hs u → ∃ x, (Instr.indexAt t u (.int q i)).run P w = .ok x w ∧ RVRel (Osum F hs (look rd)) w v hs x) →
      Good P o regs bs nx v rd [] [] nx := by
    intro v rd hs hv
    refine good_pure hs fun F hs ρ w hr hw => ?_
    obtain ⟨y, h1, h2⟩ := hv F hs w _ hw (hr x hm _ hx)
    have e2 := rel_v (hr ix hm' _ hi)
    exact ⟨y, by simp only [execOp, ho, e2]; rw [Sem.run_bind, h1]; rfl, h2⟩
  unfold indexAddrK at h
  split at h
  · rename_i e n q' tight g ht
    obtain ⟨inf, hinf, h⟩ := sizeK_spec h
    split at h
    · rename_i hq
      have hq := Nat.eq_of_beq_eq_true hq
      obtain ⟨hb, h⟩ := h
      refine ⟨_, _, h, key _ _ (sub_nil _) fun F hs w u hw hu => ?_⟩
      obtain ⟨a, cap, rfl, h1, h2, _, h3⟩ := hu
      obtain ⟨b, off, rfl, h4, h5, h6⟩ := h3 (by omega)
      refine ⟨_, run_indexAt_slice ht hinf w q i b off n cap hb, b, _, rfl, h4, h5, fun t' ht' => ?_⟩
      obtain ⟨y, h7, h8⟩ := h6 i.toNat (by omega) t' ht'
      exact ⟨y, by rw [hq, Nat.add_assoc]; exact h7, h8⟩
    · exact h.elim
  · rename_i e j ht
    obtain ⟨inf, hinf, h⟩ := sizeK_spec h
    obtain ⟨b, hb, h⟩ := lookK_spec _ _ _ h
    split at h
    · rename_i ty q' n g
      split at h
      · rename_i hq
        have hq := Nat.eq_of_beq_eq_true hq
        obtain ⟨hbd, h⟩ := h
        refine ⟨_, _, h, key _ _ (sub_one hb) fun F hs w u hw hu => ?_⟩
        obtain ⟨a, cap, e1, e2, e3⟩ := slc_of hw (j := j) (ty := ty) (q := q') (n := n) (g := g) (by simp [look])
        obtain ⟨x', cs, e4, e5, e6, e7⟩ := e3 (by omega)
        subst e4
        have hu' : hs j = some u := hu.1
        rw [hu'] at e1; cases e1
        exact ⟨_, run_indexAt_slice ht hinf w q i x' 0 n cap hbd, x', n, cap, hu', by omega, by rw [hq, Nat.zero_add, Nat.add_zero]⟩
      · exact h.elim
    · rename_i q' n g
      split at h
      · rename_i hq
        have hq := Nat.eq_of_beq_eq_true hq
        obtain ⟨hbd, h⟩ := h
        refine ⟨_, _, h, key _ _ (sub_one hb) fun F hs w u hw hu => ?_⟩
        obtain ⟨v', hv', hr⟩ := hw.blk j (.fsl q' n g) (by simp [look])
        have hu' : hs j = some u := hu.1
        rw [hu'] at hv'; cases hv'
        obtain ⟨a, cap, rfl, h1, h2, _, h3⟩ := hr
        obtain ⟨b, off, rfl, h4, h5, h6⟩ := h3 (by omega)
        refine ⟨_, run_indexAt_slice ht hinf w q i b off n cap hbd, b, _, rfl, h4, h5, fun t' ht' => ?_⟩
        obtain ⟨y, h7, h8⟩ := h6 i.toNat (by omega) t' ht'
        exact ⟨y, by rw [hq, Nat.add_assoc]; exact h7, h8⟩
      · exact h.elim
    · exact h.elim
  · rename_i e j q' a n ht
    obtain ⟨inf, hinf, h⟩ := sizeK_spec h
    split at h
    · rename_i hq
      have hq := Nat.eq_of_beq_eq_true hq
      obtain ⟨hbd, h⟩ := h
      refine ⟨_, _, h, key _ _ (sub_nil _) fun F hs w u hw hu => ?_⟩
      obtain ⟨b, m, cap, h1, h2, h3, rfl⟩ := hu
      exact ⟨_, run_indexAt_slice ht hinf w q i b (a * q') n (cap - a) hbd, b, m, cap, h1, by omega, by rw [hq, Nat.add_zero, Nat.add_mul]⟩
    · exact h.elim
  · rename_i e j off n q' ht
    obtain ⟨inf, hinf, h⟩ := sizeK_spec h
    split at h
    · rename_i hq
      have hq := Nat.eq_of_beq_eq_true hq
      split at h
      · rename_i hq1
        have hq1 := Nat.eq_of_beq_eq_true hq1
        obtain ⟨hbd, h⟩ := h
        refine ⟨_, _, h, key _ _ (sub_nil _) fun F hs w u hw hu => ?_⟩
        obtain ⟨b, cap, h1, _, rfl⟩ := hu
        exact ⟨_, run_indexAt_slice ht hinf w q i b off n cap hbd, b, h1, hbd.1, hbd.2, by rw [hq, hq1]; simp⟩
      obtain ⟨i', hi', h2⟩ := litI_spec h
      subst hi'
      split at h2
      · rename_i hle
        have hle := Nat.le_of_ble_eq_true hle
        have h2 := litK_spec _ _ _ _ h2
        refine ⟨_, _, h2, key _ _ (sub_nil _) fun F hs w u hw hu => ?_⟩
        obtain ⟨b, cap, h1, _, rfl⟩ := hu
        exact ⟨_, run_indexAt_slice ht hinf w q i' b off n cap (by omega), b, h1, by rw [hq]; simp⟩
      · exact h2.elim
    · exact h.elim
  · rename_i len e j off ht
    obtain ⟨inf, hinf, h⟩ := sizeK_spec h
    split at h
    · obtain ⟨i', hi', h2⟩ := litI_spec h
      subst hi'
      split at h2
      · rename_i hle
        have hle := Nat.le_of_ble_eq_true hle
        have h2 := litK_spec _ _ _ _ h2
        refine ⟨_, _, h2, key _ _ (sub_nil _) fun F hs w u hw hu => ?_⟩
        obtain ⟨b, h1, rfl⟩ := rel_ptr hu
        exact ⟨_, run_indexAt_array ht hinf w q i' b off (by omega), b, h1, by simp⟩
      · exact h2.elim
    · split at h
      · rename_i hq
        have hq := Nat.eq_of_beq_eq_true hq
        obtain ⟨hbd, h⟩ := h
        refine ⟨_, _, h, key _ _ (sub_nil _) fun F hs w u hw hu => ?_⟩
        obtain ⟨b, h1, rfl⟩ := rel_ptr hu
        exact ⟨_, run_indexAt_array ht hinf w q i b off hbd, b, h1, hbd.1, hbd.2, by rw [hq]; simp⟩
      · split at h
        · obtain ⟨hbd, h⟩ := h
          refine ⟨_, _, h, key _ _ (sub_nil _) fun F hs w u hw hu => ?_⟩
          obtain ⟨b, h1, rfl⟩ := rel_ptr hu
          exact ⟨_, run_indexAt_array ht hinf w q i b off hbd, b, h1, hbd.1, hbd.2, rfl⟩
        obtain ⟨i', hi', h2⟩ := litI_spec h
        subst hi'
        split at h2
        · rename_i hle
          have hle := Nat.le_of_ble_eq_true hle
          have h2 := litK_spec _ _ _ _ h2
          refine ⟨_, _, h2, key _ _ (sub_nil _) fun F hs w u hw hu => ?_⟩
          obtain ⟨b, h1, rfl⟩ := rel_ptr hu
          exact ⟨_, run_indexAt_array ht hinf w q i' b off (by omega), b, h1, by simp⟩
        · exact h2.elim
  · rename_i len e q' g ht
    obtain ⟨inf, hinf, h⟩ := sizeK_spec h
    split at h
    · rename_i hle
      have hle := Nat.le_of_ble_eq_true hle
      obtain ⟨hbd, h⟩ := h
      have old : k (.s (.c (.pro inf.size fun t => g (i.toNat * inf.size + t)))) [] → ∃ v rd, k v rd ∧ Good P o regs bs nx v rd [] [] nx := by
        intro h
        refine ⟨_, _, h, key _ _ (sub_nil _) fun F hs w u hw hu => ?_⟩
        obtain ⟨b, off, rfl, h4, h5, h6⟩ := hu
        refine ⟨_, run_indexAt_array ht hinf w q i b off hbd, b, _, rfl, h4, h5, fun t' ht' => ?_⟩
        have hlt : i.toNat * inf.size + t' < q' := by
          calc i.toNat * inf.size + t' < i.toNat * inf.size + inf.size := by omega
            _ = (i.toNat + 1) * inf.size := by rw [Nat.add_mul, Nat.one_mul]
            _ ≤ len * inf.size := Nat.mul_le_mul_right _ (by omega)
            _ ≤ q' := hle
        obtain ⟨y, h7, h8⟩ := h6 _ hlt
        exact ⟨y, by rw [Nat.add_assoc]; exact h7, h8⟩
      cases lit with
      | true => exact old h
      | false =>
      cases hm1 : Nat.beq inf.size 1 with
      | false => rw [hm1] at h; exact old h
      | true =>
        rw [hm1] at h
        have hm1 := Nat.eq_of_beq_eq_true hm1
        have h : cellsK g 0 len _ := h
        obtain ⟨l, h, hl1, hl2⟩ := cellsK_spec _ _ _ _ h
        split at h
        · obtain ⟨xs, h, x1, x2, x3⟩ := intsK_spec _ _ _ _ h
          refine ⟨_, _, h, key _ _ (sub_nil _) fun F hs w u hw hu => ?_⟩
          obtain ⟨b, off, rfl, h4, h5, h6⟩ := hu
          refine ⟨_, run_indexAt_array ht hinf w q i b off hbd, b, _, rfl, h4, h5, fun t' ht' => ?_⟩
          have ht' : t' = 0 := by omega
          subst ht'
          obtain ⟨y, h7, h8⟩ := h6 i.toNat (by rw [hm1, Nat.mul_one] at hle; omega)
          refine ⟨y, by rw [hm1, Nat.mul_one, Nat.add_zero]; exact h7, ?_⟩
          have e1 := x3 i.toNat (by omega)
          have e2 := hl2 i.toNat (by omega)
          rw [Nat.zero_add] at e1 e2
          rw [e2] at e1
          have e3 := Option.some.inj e1
          rw [e3] at h8
          exact h8
        · exact old h
    · exact h.elim
  · exact h.elim
end
end Go.Eng
namespace Go.Eng
open Go
section
variable {P : Program} {o : Oper} {regs : List RV} {bs : List (Nat × Blk)} {nx : Nat} {rv : RV} {rd : List (Nat × Blk)}
theorem call_operands {c : Call} (ho : o.op = .call c) {i : Nat} {x : Operand} (h : c.args.toList[i]? = some x) : x ∈ o.op.operands := by
  simp only [ho, Op.operands, Call.operands]
  refine Array.mem_append.2 (.inr ?_)
  exact Array.mem_of_getElem? (by simpa using h)
theorem args_one {c : Call} {x : Operand} (h : c.args.toList = [x]) : c.args = #[x] := by
  rw [← Array.toArray_toList (xs := c.args), h]
theorem args_two {c : Call} {x y : Operand} (h : c.args.toList = [x, y]) : c.args = #[x, y] := by
  rw [← Array.toArray_toList (xs := c.args), h]
theorem types_one {c : Call} {x : TypeId} (h : c.argTypes.toList = [x]) : c.argTypes = #[x] := by
  rw [← Array.toArray_toList (xs := c.argTypes), h]
theorem types_two {c : Call} {x y : TypeId} (h : c.argTypes.toList = [x, y]) : c.argTypes = #[x, y] := by
  rw [← Array.toArray_toList (xs := c.argTypes), h]
theorem opsK_one {l : List Operand} {v : RV} (hl : [v].length = l.length) (h : ∀ (i : Nat) x u, l[i]? = some x → [v][i]? = some u → Opd regs x u) : ∃ x, l = [x] ∧ Opd regs x v := by
  match l, hl with
  | [x], _ => exact ⟨x, rfl, h 0 x v rfl rfl⟩
theorem opsK_two {l : List Operand} {v u : RV} (hl : [v, u].length = l.length) (h : ∀ (i : Nat) x y, l[i]? = some x → [v, u][i]? = some y → Opd regs x y) : ∃ x y, l = [x, y] ∧ Opd regs x v ∧ Opd regs y u := by
  match l, hl with
  | [x, y], _ => exact ⟨x, y, rfl, h 0 x v rfl rfl, h 1 y u rfl rfl⟩
theorem lenK_spec {vx : RV} {k : Nat → List (Nat × Blk) → Prop} (h : lenK bs vx k) :
    ∃ n rd, k n rd ∧ Sub (look rd) (look bs) ∧ ∀ F hs w u, WRep F hs (look rd) w → RVRel (Osum F hs (look rd)) w vx hs u → ∃ a cap, u = .slice a n cap := by
  unfold lenK at h
  split at h
  · exact ⟨_, _, h, sub_nil _, fun F hs w u _ hu => by obtain ⟨a, cap, rfl, _⟩ := hu; exact ⟨a, cap, rfl⟩⟩
  · exact ⟨_, _, h, sub_nil _, fun F hs w u _ hu => ⟨none, _, hu.1⟩⟩
  · exact ⟨_, _, h, sub_nil _, fun F hs w u _ hu => by obtain ⟨b, cap, _, _, rfl⟩ := hu; exact ⟨_, cap, rfl⟩⟩
  · exact ⟨_, _, h, sub_nil _, fun F hs w u _ hu => by obtain ⟨b, m, cap, _, _, _, rfl⟩ := hu; exact ⟨_, _, rfl⟩⟩
  · rename_i j
    obtain ⟨b, hb, h⟩ := lookK_spec _ _ _ h
    split at h
    · rename_i ty q n g
      refine ⟨_, _, h, sub_one hb, fun F hs w u hw hu => ?_⟩
      obtain ⟨a, cap, e1, _⟩ := slc_of hw (j := j) (ty := ty) (q := q) (n := n) (g := g) (by simp [look])
      have hu' : hs j = some u := hu.1
      rw [hu'] at e1; cases e1
      exact ⟨a, cap, rfl⟩
    · rename_i q n g
      refine ⟨_, _, h, sub_one hb, fun F hs w u hw hu => ?_⟩
      obtain ⟨v', hv', hr⟩ := hw.blk j (.fsl q n g) (by simp [look])
      have hu' : hs j = some u := hu.1
      rw [hu'] at hv'; cases hv'
      obtain ⟨a, cap, rfl, _⟩ := hr
      exact ⟨a, cap, rfl⟩
    · exact h.elim
  · exact h.elim
theorem run_builtin {c : Call} {b : Builtin} (hc : c.callee = .builtin b) (ho : o.op = .call c) (ρ : Operand → Value) (w : World) :
    (execOp ρ o).run P w = (builtin b c.argTypes o.type (c.args.map fun | .const _ => true | _ => false) (c.args.map ρ)).run P w := by
  simp only [execOp, ho, resolve, hc]
  rfl
theorem good_len {c : Call} {v : RV} {t e : TypeId} {k : Nat → List (Nat × Blk) → Prop} (ho : o.op = .call c) (hc : c.callee = .builtin .len) (hl : [v].length = c.args.toList.length)
    (hv : ∀ (i : Nat) x u, c.args.toList[i]? = some x → [v][i]? = some u → Opd regs x u) (ht : c.argTypes.toList = [t]) (hu : P.underlying t = some (.slice e)) (h : lenK bs v k) :
    ∃ n rd, k n rd ∧ Good P o regs bs nx (.s (.c (.v (.int .i64 n)))) rd [] [] nx := by
  obtain ⟨x, hx, hxv⟩ := opsK_one hl hv
  obtain ⟨n, rd, h1, h2, h3⟩ := lenK_spec h
  refine ⟨n, rd, h1, good_pure h2 fun F hs ρ w hr hw => ⟨.int .i64 n, ?_, rfl, rfl⟩⟩
  obtain ⟨a, cap, e1⟩ := h3 F hs w _ hw (hr x (call_operands ho (i := 0) (by rw [hx]; rfl)) _ hxv)
  rw [run_builtin hc ho, args_one hx, types_one ht]
  simp [builtin, Builtin.len_, run_underlying hu, e1, goInt]
theorem good_len_array {c : Call} {v : RV} {t e : TypeId} {n : Nat} (ho : o.op = .call c) (hc : c.callee = .builtin .len) (hl : [v].length = c.args.toList.length)
    (hv : ∀ (i : Nat) x u, c.args.toList[i]? = some x → [v][i]? = some u → Opd regs x u) (ht : c.argTypes.toList = [t]) (hu : P.underlying t = some (.array n e)) :
    Good P o regs bs nx (.s (.c (.v (.int .i64 n)))) [] [] [] nx := by
  obtain ⟨x, hx, hxv⟩ := opsK_one hl hv
  refine good_pure (sub_nil _) fun F hs ρ w hr hw => ⟨.int .i64 n, ?_, rfl, rfl⟩
  rw [run_builtin hc ho, args_one hx, types_one ht]
  simp [builtin, Builtin.len_, run_underlying hu, goInt]
theorem good_len_str {c : Call} {s : ByteArray} {t : TypeId} (ho : o.op = .call c) (hc : c.callee = .builtin .len) (hl : [RV.s (.c (.v (.string s)))].length = c.args.toList.length)
    (hv : ∀ (i : Nat) x u, c.args.toList[i]? = some x → [RV.s (.c (.v (.string s)))][i]? = some u → Opd regs x u) (ht : c.argTypes.toList = [t]) (hu : P.underlying t = some .string) :
    Good P o regs bs nx (.s (.c (.v (.int .i64 (strLen s : Nat))))) [] [] [] nx := by
  obtain ⟨x, hx, hxv⟩ := opsK_one hl hv
  refine good_pure (sub_nil _) fun F hs ρ w hr hw => ⟨.int .i64 (strLen s : Nat), ?_, rfl, rfl⟩
  have e1 := rel_v (hr x (call_operands ho (i := 0) (by rw [hx]; rfl)) _ hxv)
  rw [run_builtin hc ho, args_one hx, types_one ht]
  unfold strLen
  simp [builtin, Builtin.len_, run_underlying hu, e1, goInt]
theorem good_min {c : Call} {q q' : IntKind} {a b : Int} (ho : o.op = .call c) (hc : c.callee = .builtin .min) (hl : [RV.s (.c (.v (.int q a))), .s (.c (.v (.int q' b)))].length = c.args.toList.length)
    (hv : ∀ (i : Nat) x u, c.args.toList[i]? = some x → [RV.s (.c (.v (.int q a))), .s (.c (.v (.int q' b)))][i]? = some u → Opd regs x u) :
    Good P o regs bs nx (.s (.c (.v (.int q (if b < a then b else a))))) [] [] [] nx := by
  obtain ⟨x, y, hx, hxv, hyv⟩ := opsK_two hl hv
  refine good_pure (sub_nil _) fun F hs ρ w hr hw => ⟨_, ?_, rfl, rfl⟩
  have e1 := rel_v (hr x (call_operands ho (i := 0) (by rw [hx]; rfl)) _ hxv)
  have e2 := rel_v (hr y (call_operands ho (i := 1) (by rw [hx]; rfl)) _ hyv)
  rw [run_builtin hc ho, args_two hx]
  simp [builtin, Builtin.min_, Builtin.min2, e1, e2]
theorem good_max {c : Call} {q q' : IntKind} {a b : Int} (ho : o.op = .call c) (hc : c.callee = .builtin .max) (hl : [RV.s (.c (.v (.int q a))), .s (.c (.v (.int q' b)))].length = c.args.toList.length)
    (hv : ∀ (i : Nat) x u, c.args.toList[i]? = some x → [RV.s (.c (.v (.int q a))), .s (.c (.v (.int q' b)))][i]? = some u → Opd regs x u) :
    Good P o regs bs nx (.s (.c (.v (.int q (if b > a then b else a))))) [] [] [] nx := by
  obtain ⟨x, y, hx, hxv, hyv⟩ := opsK_two hl hv
  refine good_pure (sub_nil _) fun F hs ρ w hr hw => ⟨_, ?_, rfl, rfl⟩
  have e1 := rel_v (hr x (call_operands ho (i := 0) (by rw [hx]; rfl)) _ hxv)
  have e2 := rel_v (hr y (call_operands ho (i := 1) (by rw [hx]; rfl)) _ hyv)
  rw [run_builtin hc ho, args_two hx]
  simp [builtin, Builtin.max_, Builtin.max2, e1, e2]
theorem good_field_agg {x : Operand} {s : TypeId} {f : Nat} {l r : List Cell} {fs : Array Field} {fl : Field} {i : TypeInfo} (ho : o.op = .field s x f) (hx : Opd regs x (.s (.agg l)))
    (h1 : P.underlying s = some (.struct fs)) (h2 : fs[f]? = some fl) (h3 : P.info? fl.type = some i) (ha : isAggT P fl.type = some true)
    (hlen : r.length = i.size) (hle : fl.offset + i.size ≤ l.length) (hr : ∀ t, t < i.size → r[t]? = l[fl.offset + t]?) : Good P o regs bs nx (.s (.agg r)) [] [] [] nx := by
  refine good_pure (sub_nil _) fun F hs ρ w hr' hw => ?_
  obtain ⟨cs, e1, e2, e3⟩ := hr' x (by simp [ho, Op.operands]) _ hx
  refine ⟨.agg (cs.extract fl.offset (fl.offset + i.size)), ?_, _, rfl, ?_, fun t c v hc hv => ?_⟩
  · simp only [execOp, ho, e1]
    simp [Instr.field, run_underlying h1, h2, asAgg, part, run_isAgg ha, run_sizeOf h3]
  · simp; omega
  · have ht : t < i.size := by rw [← hlen]; exact (List.getElem?_eq_some_iff.1 hc).1
    rw [hr t ht] at hc
    refine e3 _ c v hc ?_
    rw [← hv, Array.getElem?_extract]
    rw [if_pos (by omega)]
theorem good_field_one {x : Operand} {s : TypeId} {f : Nat} {l : List Cell} {c : Cell} {fs : Array Field} {fl : Field} (ho : o.op = .field s x f) (hx : Opd regs x (.s (.agg l)))
    (h1 : P.underlying s = some (.struct fs)) (h2 : fs[f]? = some fl) (ha : isAggT P fl.type = some false) (hc : l[fl.offset]? = some c) : Good P o regs bs nx (.s (.c c)) [] [] [] nx := by
  refine good_pure (sub_nil _) fun F hs ρ w hr' hw => ?_
  obtain ⟨cs, e1, e2, e3⟩ := hr' x (by simp [ho, Op.operands]) _ hx
  have hlt : fl.offset < cs.size := by rw [e2]; exact (List.getElem?_eq_some_iff.1 hc).1
  refine ⟨cs[fl.offset], ?_, e3 _ c _ hc (Array.getElem?_eq_getElem hlt)⟩
  simp only [execOp, ho, e1]
  simp [Instr.field, run_underlying h1, h2, asAgg, part, run_isAgg ha, Array.getElem?_eq_getElem hlt]
/-- A value's own cells. -/
theorem sv_cells {O : Nat → Prop} {w : World} {x : Sv} {hs : Names} {u : Value} (h : SvRel O w x hs u) :
    u.cells.size = x.cells.length ∧ ∀ (i : Nat) c v, x.cells[i]? = some c → u.cells[i]? = some v → Rel O w c hs v := by
  cases x with
  | agg l =>
    obtain ⟨cs, e1, e2, e3⟩ := h
    subst e1
    exact ⟨e2, e3⟩
  | c x =>
    have hu : u.cells = #[u] := one_cells (rel_one h)
    refine ⟨by rw [hu]; rfl, fun i c v hc hv => ?_⟩
    cases i with
    | zero => simp [Sv.cells] at hc; subst hc; simp [hu] at hv; subst hv; exact h
    | succ i => simp [Sv.cells] at hc
end
end Go.Eng
namespace Go.Eng
open Go
theorem AllInt.tail {e : MapEntry} {es : List MapEntry} (h : AllInt (e :: es)) : AllInt es := fun x hx => h x (by simp [hx])
theorem lookE_cons {e : MapEntry} {es : List MapEntry} {b c : Int} (h1 : e.key = .int .i64 b) (h2 : e.val = .int .i64 c) (a : Int) :
    lookE (e :: es) a = if a = b then some c else lookE es a := by simp [lookE, h1, h2]
theorem findNow_spec (q : IntKind) (a : Int) : ∀ (es : List MapEntry) (i : Nat), AllInt es →
    (lookE es a = none ∧ Instr.findNow (.int q) (.int .i64 a) es i = some none) ∨
    ∃ n c e, lookE es a = some c ∧ Instr.findNow (.int q) (.int .i64 a) es i = some (some (i + n, .int .i64 c)) ∧ es[n]? = some e ∧ e.key = .int .i64 a ∧
      ∀ x, AllInt (es.modify n fun e => { e with key := .int .i64 a, val := .int .i64 x }) ∧
        ∀ a', lookE (es.modify n fun e => { e with key := .int .i64 a, val := .int .i64 x }) a' = if a' = a then some x else lookE es a'
  | [], i, _ => .inl ⟨rfl, rfl⟩
  | e :: es, i, h => by
    obtain ⟨b, c, h1, h2⟩ := h e (by simp)
    by_cases hab : a = b
    · refine .inr ⟨0, c, e, ?_, ?_, rfl, by rw [h1, hab], fun x => ⟨?_, fun a' => ?_⟩⟩
      · rw [lookE_cons h1 h2, if_pos hab]
      · simp [Instr.findNow, Instr.sameNow, h1, h2, hab]
      · intro y hy
        simp at hy
        rcases hy with rfl | hy
        · exact ⟨a, x, rfl, rfl⟩
        · exact h y (by simp [hy])
      · simp only [List.modify_zero_cons]
        rw [lookE_cons rfl rfl, lookE_cons h1 h2]
        subst hab
        split <;> rfl
    · rcases findNow_spec q a es (i + 1) h.tail with ⟨h3, h4⟩ | ⟨n, d, e', h3, h4, h5, h6, h7⟩
      · refine .inl ⟨by rw [lookE_cons h1 h2, if_neg hab, h3], ?_⟩
        have hb : (a == b) = false := by simpa using hab
        simp [Instr.findNow, Instr.sameNow, h1, hb, h4]
      · refine .inr ⟨n + 1, d, e', by rw [lookE_cons h1 h2, if_neg hab, h3], ?_, by simpa using h5, h6, fun x => ⟨?_, fun a' => ?_⟩⟩
        · simp only [Instr.findNow, Instr.sameNow, h1, if_true]
          have : (a == b) = false := by simpa using hab
          rw [this]
          simp only [h4]
          congr 3
          omega
        · intro y hy
          simp only [List.modify_succ_cons, List.mem_cons] at hy
          rcases hy with rfl | hy
          · exact ⟨b, c, h1, h2⟩
          · exact (h7 x).1 y hy
        · simp only [List.modify_succ_cons]
          rw [lookE_cons h1 h2, lookE_cons h1 h2, (h7 x).2 a']
          by_cases e1 : a' = b
          · subst e1
            simp [Ne.symm hab]
          · simp [e1]
theorem lookE_push (es : List MapEntry) (h : AllInt es) (a x : Int) (t : Nat) (hn : lookE es a = none) :
    AllInt (es ++ [{ key := .int .i64 a, val := .int .i64 x, born := t }]) ∧
    ∀ a', lookE (es ++ [{ key := .int .i64 a, val := .int .i64 x, born := t }]) a' = if a' = a then some x else lookE es a' := by
  refine ⟨fun y hy => ?_, fun a' => ?_⟩
  · simp at hy
    rcases hy with hy | rfl
    · exact h y hy
    · exact ⟨a, x, rfl, rfl⟩
  · induction es with
    | nil => simp [lookE]
    | cons e es ih =>
      obtain ⟨b, c, h1, h2⟩ := h e (by simp)
      rw [lookE_cons h1 h2] at hn
      have hab : ¬ a = b := by intro e1; rw [if_pos e1] at hn; cases hn
      rw [if_neg hab] at hn
      rw [List.cons_append, lookE_cons h1 h2, lookE_cons h1 h2, ih h.tail hn]
      by_cases e1 : a' = b
      · subst e1
        simp [Ne.symm hab]
      · simp [e1]
section
variable {P : Program}
theorem run_checkKey_int {kt : TypeId} {q : IntKind} (hk : P.underlying kt = some (.int q)) (e : Bool) (v : Value) (w : World) : (Instr.checkKey e 10000 kt v).run P w = .ok () w := by
  rw [show (10000 : Nat) = 9999 + 1 from rfl]
  unfold Instr.checkKey
  rw [Sem.run_bind, run_underlying hk]
  rfl
theorem run_getObj_map {w : World} {r : Nat} {es : Array MapEntry} {clk : Nat} (h : w.heap[r]? = some (.map es clk)) : (getObj r).run P w = .ok (.map es clk) w := by
  simp [getObj, Sem.run, h]
theorem run_lookup_int {t kt et : TypeId} {q : IntKind} {inf : TypeInfo} (ht : P.underlying t = some (.map kt et)) (hk : P.underlying kt = some (.int q)) (hi : P.info? et = some inf) (hz : inf.zero = some (.int .i64 0))
    {w : World} {r : Nat} {es : Array MapEntry} {clk : Nat} {f : Int → Option Int} (hr : w.heap[r]? = some (.map es clk)) (hm : IMap es f) (a : Int) (ok : Bool) :
    (Instr.lookup t (.map (some r)) (.int .i64 a) ok).run P w = .ok (if ok then .tuple #[.int .i64 ((f a).getD 0), .bool (f a).isSome] else .int .i64 ((f a).getD 0)) w := by
  have hfk : (Instr.findKey kt (.int .i64 a) es.toList).run P w = .ok ((Instr.findNow (.int q) (.int .i64 a) es.toList 0).getD none) w := by
    unfold Instr.findKey
    rw [Sem.run_bind, run_underlying hk]
    simp only [Result.andThen_ok]
    rcases findNow_spec q a es.toList 0 hm.1 with ⟨_, h2⟩ | ⟨n, c, e, _, h2, _⟩ <;> rw [h2] <;> rfl
  simp only [Instr.lookup, Sem.run_bind, run_underlying ht, Result.andThen_ok, run_getObj_map hr, Sem.run_pure, run_checkKey_int hk, hfk]
  rcases findNow_spec q a es.toList 0 hm.1 with ⟨h1, h2⟩ | ⟨n, c, e, h1, h2, _⟩
  · rw [h2, hm.2 a, h1]
    simp [zeroValue, typeInfo, hi, hz]
  · rw [h2, hm.2 a, h1]
    simp
theorem run_mapUpdate_int {t kt et : TypeId} {q : IntKind} (ht : P.underlying t = some (.map kt et)) (hk : P.underlying kt = some (.int q))
    {w : World} {r : Nat} {es : Array MapEntry} {clk : Nat} {f : Int → Option Int} (hr : w.heap[r]? = some (.map es clk)) (hm : IMap es f) (a x : Int) :
    ∃ es' clk', (Instr.mapUpdate t (.map (some r)) (.int .i64 a) (.int .i64 x)).run P w = .ok () { w with heap := w.heap.setIfInBounds r (.map es' clk') } ∧
      IMap es' (fun a' => if a' = a then some x else f a') := by
  have hfk : (Instr.findKey kt (.int .i64 a) es.toList).run P w = .ok ((Instr.findNow (.int q) (.int .i64 a) es.toList 0).getD none) w := by
    unfold Instr.findKey
    rw [Sem.run_bind, run_underlying hk]
    simp only [Result.andThen_ok]
    rcases findNow_spec q a es.toList 0 hm.1 with ⟨_, h2⟩ | ⟨n, c, e, _, h2, _⟩ <;> rw [h2] <;> rfl
  have hso : ∀ ob, (setObj r ob).run P w = .ok () { w with heap := w.heap.setIfInBounds r ob } := by
    intro ob
    simp [setObj, Sem.run, hr]
  simp only [Instr.mapUpdate, Sem.run_bind, run_underlying ht, Result.andThen_ok, run_getObj_map hr, run_checkKey_int hk, hfk]
  rcases findNow_spec q a es.toList 0 hm.1 with ⟨h1, h2⟩ | ⟨n, c, e, h1, h2, h3, h4, h5⟩
  · rw [h2]
    simp only [Option.getD_some, hso]
    obtain ⟨h6, h7⟩ := lookE_push es.toList hm.1 a x clk h1
    refine ⟨_, _, rfl, ?_, fun a' => ?_⟩
    · simpa using h6
    · simp only [Array.toList_push]
      rw [h7 a', hm.2 a']
  · rw [h2]
    simp only [Option.getD_some, Nat.zero_add]
    have he : ((es[n]?).map (·.key)).getD (.int .i64 a) = .int .i64 a := by
      have : es[n]? = some e := by simpa using h3
      rw [this]; simp [h4]
    have hks : (Instr.keyThatStays (((es[n]?).map (·.key)).getD (.int .i64 a)) (.int .i64 a)).run P w = .ok (.int .i64 a) w := by
      rw [he]
      simp [Instr.keyThatStays, Instr.sameBits]
    simp only [Sem.run_bind, hks, Result.andThen_ok, hso]
    refine ⟨_, _, rfl, ?_, fun a' => ?_⟩
    · have := (h5 x).1
      simpa using this
    · have := (h5 x).2 a'
      simp only [Array.toList_modify]
      rw [this, hm.2 a']
end
end Go.Eng
namespace Go.Eng
open Go
section
variable {P : Program} {o : Oper} {regs : List RV} {bs : List (Nat × Blk)} {nx : Nat} {rv : RV} {rd : List (Nat × Blk)}
variable {F : Nat → Prop} {hs : Names} {B : Mem} {w w' : World} {v : Value}
theorem fresh_none (hw : WRep F hs B w) (hf : ∀ j, nx ≤ j → j < nx + 1 → hs j = none) {j : Nat} (hj : nx = j) : B j = none := by
  cases hb : B j with
  | none => rfl
  | some b =>
    obtain ⟨h, hh, _⟩ := hw.blk j b hb
    rw [hf j (by omega) (by omega)] at hh; cases hh
/-- A new block, under the next name. -/
theorem post_new (hw : WRep F hs B w) (hf : ∀ j, nx ≤ j → j < nx + 1 → hs j = none) (hfr : Fr (fun _ => False) w w') {b : Blk} {h : Value}
    (hb : ∀ (hs' : Names) (O' : Nat → Prop), (∀ j u, hs j = some u → hs' j = some u) → (∀ x, O' x → Osum F hs B x ∨ w.heap.size ≤ x) →
      (∀ x, O' x → Osum F hs B x ∨ owner b h = some x) → BlkRel O' w' hs' b h)
    (ho : ∀ x, owner b h = some x → w.heap.size ≤ x)
    (hrv : ∀ (hs' : Names) (O' : Nat → Prop), (∀ j u, hs j = some u → hs' j = some u) → hs' nx = some h → (∀ x, O' x → Osum F hs B x ∨ w.heap.size ≤ x) → RVRel O' w' rv hs' v) :
    Post F hs B w rv (fun j => if nx = j then some b else B j) nx (nx + 1) v w' := by
  have hext : ∀ j u, hs j = some u → (fun j => if nx = j then some h else hs j) j = some u := by
    intro j u hj
    by_cases e : nx = j
    · subst e; rw [hf nx (Nat.le_refl _) (Nat.lt_succ_self _)] at hj; cases hj
    · simp [e, hj]
  have hBn : ∀ j c, B j = some c → ¬ nx = j := by
    intro j c hj e
    subst e
    rw [fresh_none hw hf rfl] at hj; cases hj
  have hown : ∀ x, own (fun j => if nx = j then some h else hs j) (fun j => if nx = j then some b else B j) x → own hs B x ∨ owner b h = some x := by
    rintro x ⟨j, c, u, hc, hu, hx⟩
    by_cases e : nx = j
    · subst e; simp at hc hu; subst hc; subst hu; exact .inr hx
    · simp [e] at hc hu; exact .inl ⟨j, c, u, hc, hu, hx⟩
  have hO : ∀ x, Osum F (fun j => if nx = j then some h else hs j) (fun j => if nx = j then some b else B j) x → Osum F hs B x ∨ owner b h = some x := by
    rintro x (hx | hx)
    · exact .inl (.inl hx)
    · exact (hown x hx).imp .inr id
  have hO' : ∀ x, Osum F (fun j => if nx = j then some h else hs j) (fun j => if nx = j then some b else B j) x → Osum F hs B x ∨ w.heap.size ≤ x :=
    fun x hx => (hO x hx).imp id (ho x)
  refine ⟨fun j => if nx = j then some h else hs j, hrv _ _ hext (by simp) hO', ⟨?_, ?_, ?_, ?_⟩, hext, fun j hj => ?_, hfr.mono (fun _ _ h => h.elim), fun x hx => (hown x hx).imp id (ho x)⟩
  · intro j c hc
    by_cases e : nx = j
    · subst e; simp at hc; subst hc
      exact ⟨h, by simp, hb _ _ hext hO' hO⟩
    · simp [e] at hc
      obtain ⟨u, hu, hr⟩ := hw.blk j c hc
      refine ⟨u, by simp [e, hu], BlkRel.mono hfr.size (fun x hx _ => hfr.block x hx id) hO' hext (fun x hx => ?_) hr⟩
      exact hfr.block x (own_lt hw ⟨j, c, u, hc, hu, hx⟩) id
  · intro i j bi bj hi hj x hbi hbj hhi hhj hoi hoj
    by_cases ei : nx = i
    · by_cases ej : nx = j
      · rw [← ei, ← ej]
      · subst ei; simp at hbi hhi; subst hbi; subst hhi
        simp [ej] at hbj hhj
        have := own_lt hw ⟨j, bj, hj, hbj, hhj, hoj⟩
        have := ho x hoi
        omega
    · simp [ei] at hbi hhi
      by_cases ej : nx = j
      · subst ej; simp at hbj hhj; subst hbj; subst hhj
        have := own_lt hw ⟨i, bi, hi, hbi, hhi, hoi⟩
        have := ho x hoj
        omega
      · simp [ej] at hbj hhj
        exact hw.sep i j bi bj hi hj x hbi hbj hhi hhj hoi hoj
  · exact fun x hx => Nat.lt_of_lt_of_le (hw.lt x hx) hfr.size
  · intro x hx h'
    rcases hown x h' with h' | h'
    · exact hw.apart x hx h'
    · have := hw.lt x hx
      have := ho x h'
      omega
  · have e : ¬ nx = j := by omega
    simp only [e, if_false]
/-- A block that is turned, or let go. -/
theorem post_upd (hw : WRep F hs B w) {j : Nat} {b0 b1 : Blk} {h : Value} (hj : B j = some b0) (hh : hs j = some h)
    (hfr : Fr (fun x => owner b0 h = some x) w w') (ho : ∀ x, owner b1 h = some x → owner b0 h = some x)
    (hb : ∀ O' : Nat → Prop, (∀ x, O' x → Osum F hs B x) → (∀ x, O' x → Osum F hs B x ∧ (owner b0 h = some x → owner b1 h = some x)) → BlkRel O' w' hs b1 h)
    (hrv : ∀ O' : Nat → Prop, (∀ x, O' x → Osum F hs B x ∧ (owner b0 h = some x → owner b1 h = some x)) → RVRel O' w' rv hs v) :
    Post F hs B w rv (fun i => if j = i then some b1 else B i) nx nx v w' := by
  have hown : ∀ x, own hs (fun i => if j = i then some b1 else B i) x → own hs B x ∧ (owner b0 h = some x → owner b1 h = some x) := by
    rintro x ⟨i, c, u, hc, hu, hx⟩
    by_cases e : j = i
    · subst e; simp at hc; subst hc
      rw [hh] at hu; cases hu
      exact ⟨⟨j, b0, h, hj, hh, ho x hx⟩, fun _ => hx⟩
    · simp [e] at hc
      refine ⟨⟨i, c, u, hc, hu, hx⟩, fun h' => ?_⟩
      exact (e (hw.sep j i b0 c h u x hj hc hh hu h' hx)).elim
  have hO : ∀ x, Osum F hs (fun i => if j = i then some b1 else B i) x → Osum F hs B x ∧ (owner b0 h = some x → owner b1 h = some x) := by
    rintro x (hx | hx)
    · exact ⟨.inl hx, fun h' => (hw.apart x hx ⟨j, b0, h, hj, hh, h'⟩).elim⟩
    · exact ⟨.inr (hown x hx).1, (hown x hx).2⟩
  have hjO : ∀ x, owner b0 h = some x → Osum F hs B x := fun x hx => .inr ⟨j, b0, h, hj, hh, hx⟩
  refine ⟨hs, hrv _ hO, ⟨?_, ?_, ?_, ?_⟩, fun _ _ h => h, fun _ _ => rfl, hfr.mono (fun x _ hx => ⟨j, b0, h, hj, hh, hx⟩), fun x hx => .inl (hown x hx).1⟩
  · intro i c hc
    by_cases e : j = i
    · subst e; simp at hc; subst hc
      exact ⟨h, hh, hb _ (fun x hx => (hO x hx).1) hO⟩
    · simp [e] at hc
      obtain ⟨u, hu, hr⟩ := hw.blk i c hc
      refine ⟨u, hu, BlkRel.mono hfr.size (fun x hx hn => hfr.block x hx fun h' => hn (hjO x h')) (fun x hx => .inl (hO x hx).1) (fun _ _ h => h) (fun x hx => ?_) hr⟩
      exact hfr.block x (own_lt hw ⟨i, c, u, hc, hu, hx⟩) fun h' => e (hw.sep j i b0 c h u x hj hc hh hu h' hx)
  · intro i i' bi bj hi hi' x hbi hbj hhi hhj hoi hoj
    by_cases ei : j = i
    · by_cases ej : j = i'
      · rw [← ei, ← ej]
      · subst ei; simp at hbi; subst hbi
        rw [hh] at hhi; cases hhi
        simp [ej] at hbj
        exact hw.sep j i' b0 bj h hi' x hj hbj hh hhj (ho x hoi) hoj
    · simp [ei] at hbi
      by_cases ej : j = i'
      · subst ej; simp at hbj; subst hbj
        rw [hh] at hhj; cases hhj
        exact hw.sep i j bi b0 hi h x hbi hj hhi hh hoi (ho x hoj)
      · simp [ej] at hbj
        exact hw.sep i i' bi bj hi hi' x hbi hbj hhi hhj hoi hoj
  · exact fun x hx => Nat.lt_of_lt_of_le (hw.lt x hx) hfr.size
  · intro x hx h'
    exact hw.apart x hx (hown x h').1
theorem look_single (b : Blk) (rd : List (Nat × Blk)) : look ([(nx, b)] ++ rd) = fun j => if nx = j then some b else look rd j := by
  funext j; simp [look]
/-- One new block, whatever was read. -/
theorem good_new {b : Blk} (hsub : Sub (look rd) (look bs))
    (hrun : ∀ (F : Nat → Prop) (hs : Names) (ρ : Operand → Value) (w : World),
      (∀ x ∈ o.op.operands, ∀ v, Opd regs x v → RVRel (Osum F hs (look rd)) w v hs (ρ x)) → WRep F hs (look rd) w →
      ∃ v h w', (execOp ρ o).run P w = .ok (.value v) w' ∧ Fr (fun _ => False) w w' ∧
        (∀ (hs' : Names) (O' : Nat → Prop), (∀ j u, hs j = some u → hs' j = some u) → (∀ x, O' x → Osum F hs (look rd) x ∨ w.heap.size ≤ x) →
          (∀ x, O' x → Osum F hs (look rd) x ∨ owner b h = some x) → BlkRel O' w' hs' b h) ∧
        (∀ x, owner b h = some x → w.heap.size ≤ x) ∧
        (∀ (hs' : Names) (O' : Nat → Prop), (∀ j u, hs j = some u → hs' j = some u) → hs' nx = some h → (∀ x, O' x → Osum F hs (look rd) x ∨ w.heap.size ≤ x) → RVRel O' w' rv hs' v)) :
    Good P o regs bs nx rv rd [] [(nx, b)] (nx + 1) where
  sub := hsub
  dom := fun j c h => by
    rw [look_single]
    by_cases e : nx = j
    · exact ⟨b, by simp [e]⟩
    · exact ⟨c, by simpa [e] using h⟩
  new := fun j c h => by
    rw [look_single] at h
    by_cases e : nx = j
    · exact .inr (by omega)
    · simp [e] at h; exact .inl ⟨c, h⟩
  le := by omega
  run := fun F hs ρ w hx hw hf => by
    obtain ⟨v, h, w', h1, h2, h3, h4, h5⟩ := hrun F hs ρ w hx hw
    rw [h1, look_single]
    exact post_new hw hf h2 h3 h4 h5
theorem fr_alloc (w : World) (ob : Obj) : Fr (fun _ => False) w (w.alloc ob) :=
  ⟨rfl, rfl, rfl, by simp, fun x hx _ => RowKit.Below.heap_alloc w ob x hx⟩
theorem alloc_new (w : World) (ob : Obj) : (w.alloc ob).heap[w.heap.size]? = some ob := by
  show (w.heap.push ob)[w.heap.size]? = _
  simp
theorem zeroK_spec {t : TypeId} {k : List Cell → Prop} (h : zeroK P t k) : ∃ i z, P.info? t = some i ∧ i.zero = some z ∧ k (z.cells.toList.map .v) ∧ ∀ v ∈ z.cells.toList, v.oneCell' = true := by
  unfold zeroK at h
  split at h
  · rename_i i hi
    split at h
    · rename_i z hz
      exact ⟨i, z, hi, hz, valsK_spec _ _ h⟩
    · exact h.elim
  · exact h.elim
theorem good_alloc {e : TypeId} {i : TypeInfo} {z : Value} (ho : o.op = .alloc e) (hi : P.info? e = some i) (hz : i.zero = some z) (h1 : ∀ v ∈ z.cells.toList, v.oneCell' = true) :
    Good P o regs bs nx (.s (.c (.ptr nx 0))) [] [] [(nx, .row e (z.cells.toList.map .v))] (nx + 1) := by
  refine good_new (sub_nil _) fun F hs ρ w hr hw => ⟨.pointer (some ⟨w.heap.size, 0, none⟩), .pointer (some ⟨w.heap.size, 0, none⟩), w.alloc (.cells z.cells e), ?_, fr_alloc _ _, ?_, ?_, ?_⟩
  · simp only [execOp, ho]
    simp [Instr.alloc, zeroValue, typeInfo, hi, hz, newVar, newRow, newObj, Sem.run]
  · intro hs' O' _ _ _
    refine ⟨w.heap.size, z.cells, rfl, alloc_new _ _, by simp, fun m c u hc hu => ?_⟩
    have hu' := hu
    simp at hc
    rw [hu] at hc
    simp at hc
    subst hc
    exact ⟨rfl, h1 u (by have := Array.mem_of_getElem? hu'; simpa using this)⟩
  · intro x hx; simp [owner] at hx; omega
  · intro hs' O' _ hn _
    exact ⟨w.heap.size, hn, rfl⟩
theorem good_box {e : TypeId} {x : Operand} {s : Sv} (ho : o.op = .box e x) (hx : Opd regs x (.s s)) :
    Good P o regs bs nx (.s (.c (.ptr nx 0))) [] [] [(nx, .row e s.cells)] (nx + 1) := by
  refine good_new (sub_nil _) fun F hs ρ w hr hw => ?_
  have hrx := hr x (by simp [ho, Op.operands]) _ hx
  obtain ⟨e1, e2⟩ := sv_cells hrx
  refine ⟨.pointer (some ⟨w.heap.size, 0, none⟩), .pointer (some ⟨w.heap.size, 0, none⟩), w.alloc (.cells (ρ x).cells e), ?_, fr_alloc _ _, ?_, ?_, ?_⟩
  · simp only [execOp, ho]
    simp [Instr.box, newVar, newRow, newObj, Sem.run]
  · intro hs' O' hext hO _
    refine ⟨w.heap.size, (ρ x).cells, rfl, alloc_new _ _, e1, fun m c u hc hu => ?_⟩
    exact Rel.mono (by simp) (fun y hy _ => RowKit.Below.heap_alloc w _ y hy) hO _ _ _ _ hext (e2 m c u hc hu)
  · intro y hy; simp [owner] at hy; omega
  · intro hs' O' _ hn _
    exact ⟨w.heap.size, hn, rfl⟩
theorem good_makeMap {t kt et : TypeId} (ho : o.op = .makeMap t none) (_ht : P.underlying t = some (.map kt et)) :
    Good P o regs bs nx (.s (.c (.mp nx))) [] [] [(nx, .imap fun _ => none)] (nx + 1) := by
  refine good_new (sub_nil _) fun F hs ρ w hr hw => ⟨.map (some w.heap.size), .map (some w.heap.size), w.alloc (.map #[] 0), ?_, fr_alloc _ _, ?_, ?_, ?_⟩
  · simp only [execOp, ho]
    simp [Instr.makeMap, newObj, Sem.run]
  · intro hs' O' _ _ _
    exact ⟨w.heap.size, #[], 0, rfl, alloc_new _ _, fun e he => by simp at he, fun a => rfl⟩
  · intro x hx; simp [owner] at hx; omega
  · intro hs' O' _ hn _
    exact ⟨hn, _, rfl⟩
theorem good_lookup {t kt et : TypeId} {m ix : Operand} {ok : Bool} {q : IntKind} {inf : TypeInfo} {j : Nat} {a : Int} {f : Int → Option Int} (ho : o.op = .lookup t m ix ok)
    (ht : P.underlying t = some (.map kt et)) (hk : P.underlying kt = some (.int q)) (hi : P.info? et = some inf) (hz : inf.zero = some (.int .i64 0))
    (hm : Opd regs m (.s (.c (.mp j)))) (hx : Opd regs ix (.s (.c (.v (.int .i64 a))))) (hb : look bs j = some (.imap f))
    (hv : rv = if ok then .tup [.c (.v (.int .i64 ((f a).getD 0))), .c (.v (.bool (f a).isSome))] else .s (.c (.v (.int .i64 ((f a).getD 0))))) :
    Good P o regs bs nx rv [(j, .imap f)] [] [] nx := by
  refine good_pure (sub_one hb) fun F hs ρ w hr hw => ?_
  obtain ⟨e1, _⟩ := hr m (by simp [ho, Op.operands]) _ hm
  have e2 := rel_v (hr ix (by simp [ho, Op.operands]) _ hx)
  obtain ⟨u, hu, r, es, clk, e3, e4, e5⟩ := hw.blk j (.imap f) (by simp [look])
  rw [e1] at hu
  simp only [Option.some.injEq] at hu
  refine ⟨if ok then .tuple #[.int .i64 ((f a).getD 0), .bool (f a).isSome] else .int .i64 ((f a).getD 0), ?_, ?_⟩
  · simp only [execOp, ho, e2, hu, e3]
    rw [Sem.run_bind, run_lookup_int ht hk hi hz e4 e5]
    rfl
  · subst hv
    cases ok
    · exact ⟨rfl, rfl⟩
    · refine ⟨_, rfl, rfl, fun i c u hc hu => ?_⟩
      match i, hc, hu with
      | 0, hc, hu => simp at hc hu; subst hc; subst hu; exact ⟨rfl, rfl⟩
      | 1, hc, hu => simp at hc hu; subst hc; subst hu; exact ⟨rfl, rfl⟩
      | i + 2, hc, hu => simp at hc
theorem good_upd {j : Nat} {b0 b1 : Blk} (hb : look bs j = some b0)
    (hrun : ∀ (F : Nat → Prop) (hs : Names) (ρ : Operand → Value) (w : World) (h : Value),
      (∀ x ∈ o.op.operands, ∀ v, Opd regs x v → RVRel (Osum F hs (look [(j, b0)])) w v hs (ρ x)) → WRep F hs (look [(j, b0)]) w → hs j = some h → BlkRel (Osum F hs (look [(j, b0)])) w hs b0 h →
      ∃ v w', ((execOp ρ o).run P w = .ok (.value v) w' ∨ ((execOp ρ o).run P w = .ok .skip w' ∧ v = undef)) ∧ Fr (fun x => owner b0 h = some x) w w' ∧ (∀ x, owner b1 h = some x → owner b0 h = some x) ∧
        (∀ O' : Nat → Prop, (∀ x, O' x → Osum F hs (look [(j, b0)]) x) → (∀ x, O' x → Osum F hs (look [(j, b0)]) x ∧ (owner b0 h = some x → owner b1 h = some x)) → BlkRel O' w' hs b1 h) ∧
        (∀ O' : Nat → Prop, (∀ x, O' x → Osum F hs (look [(j, b0)]) x ∧ (owner b0 h = some x → owner b1 h = some x)) → RVRel O' w' rv hs v)) :
    Good P o regs bs nx rv [] [(j, b0)] [(j, b1)] nx where
  sub := by simpa using sub_one hb
  dom := fun i c h => by
    simp [look] at h ⊢
    exact h.1
  new := fun i c h => by
    simp [look] at h
    exact .inl ⟨b0, by simp [look, h.1]⟩
  le := Nat.le_refl _
  run := fun F hs ρ w hx hw hf => by
    simp only [List.append_nil] at *
    obtain ⟨h, hh, hr⟩ := hw.blk j b0 (by simp [look])
    obtain ⟨v, w', h1, h2, h3, h4, h5⟩ := hrun F hs ρ w h hx hw hh hr
    have e : look [(j, b1)] = fun i => if j = i then some b1 else look [(j, b0)] i := by
      funext i; simp only [look]; split <;> simp_all
    have := post_upd (rv := rv) (nx := nx) (v := v) hw (j := j) (b0 := b0) (b1 := b1) (by simp [look]) hh h2 h3 h4 h5
    rw [e]
    rcases h1 with h1 | ⟨h1, rfl⟩ <;> (rw [h1]; exact this)
theorem good_mapUpdate {t kt et : TypeId} {m ix x : Operand} {q : IntKind} {j : Nat} {a c : Int} {f : Int → Option Int} (ho : o.op = .mapUpdate t m ix x)
    (ht : P.underlying t = some (.map kt et)) (hk : P.underlying kt = some (.int q))
    (hm : Opd regs m (.s (.c (.mp j)))) (hi : Opd regs ix (.s (.c (.v (.int .i64 a))))) (hx : Opd regs x (.s (.c (.v (.int .i64 c))))) (hb : look bs j = some (.imap f)) :
    Good P o regs bs nx .un [] [(j, .imap f)] [(j, .imap fun a' => if a' = a then some c else f a')] nx := by
  refine good_upd hb fun F hs ρ w h hr hw hh hbr => ?_
  obtain ⟨e1, _⟩ := hr m (by simp [ho, Op.operands]) _ hm
  have e2 := rel_v (hr ix (by simp [ho, Op.operands]) _ hi)
  have e6 := rel_v (hr x (by simp [ho, Op.operands]) _ hx)
  obtain ⟨r, es, clk, e3, e4, e5⟩ := hbr
  rw [e1] at hh
  simp only [Option.some.injEq] at hh
  obtain ⟨es', clk', h1, h2⟩ := run_mapUpdate_int ht hk e4 e5 a c
  have hlt : r < w.heap.size := (Array.getElem?_eq_some_iff.1 e4).1
  refine ⟨undef, { w with heap := w.heap.setIfInBounds r (.map es' clk') }, .inr ⟨?_, rfl⟩, ?_, fun y hy => by rw [e3] at hy ⊢; simpa [owner] using hy, fun O' _ _ => ?_, fun O' _ => rfl⟩
  · simp only [execOp, ho, e2, e6, hh, e3]
    rw [Sem.run_bind, h1]
    rfl
  · refine ⟨rfl, rfl, rfl, by simp, fun y hy hn => ?_⟩
    have : ¬ r = y := fun e => hn (by rw [e3, ← e]; rfl)
    simp [Array.getElem?_setIfInBounds, this]
  · refine ⟨r, es', clk', e3, by simp [hlt], h2⟩
end
end Go.Eng
namespace Go.Eng
open Go
section
variable {P : Program} {o : Oper} {regs : List RV} {bs : List (Nat × Blk)} {nx : Nat} {rv : RV} {rd : List (Nat × Blk)}
theorem closed_rel {O : Nat → Prop} {w : World} {c : Cell} {hs : Names} {u : Value} (h1 : c.closed = true) (h : Rel O w c hs u) : Rel O w c noNames u := by
  cases c with
  | v y => exact h
  | ro n k t g => exact h
  | pro k g => exact h
  | _ => cases h1
theorem splice_size (cs : Array Value) (vs : List Value) (off : Nat) (h : off + vs.length ≤ cs.size) :
    (cs.toList.take (off + 0) ++ vs ++ cs.toList.drop (off + 0 + vs.length)).toArray.size = cs.size := by
  simp; omega
theorem splice_get (cs : Array Value) (vs : List Value) (off : Nat) (h : off + vs.length ≤ cs.size) (m : Nat) :
    (cs.toList.take (off + 0) ++ vs ++ cs.toList.drop (off + 0 + vs.length)).toArray[m]? = if off ≤ m ∧ m < off + vs.length then vs[m - off]? else cs[m]? := by
  have hl : (cs.toList.take (off + 0)).length = off := by simp; omega
  simp only [List.getElem?_toArray]
  by_cases h1 : m < off
  · rw [if_neg (by omega), List.append_assoc, List.getElem?_append_left (by omega), List.getElem?_take]
    simp [h1]
  · by_cases h2 : m < off + vs.length
    · rw [if_pos ⟨by omega, h2⟩, List.getElem?_append_left (by simp; omega), List.getElem?_append_right (by omega), hl]
    · rw [if_neg (by omega), List.getElem?_append_right (by simp; omega), List.getElem?_drop]
      simp only [List.length_append, hl]
      rw [show off + 0 + vs.length + (m - (off + vs.length)) = m by omega]
      simp
/-- A store into a block of cells. -/
theorem run_store_at {t : TypeId} {i : TypeInfo} (hi : P.info? t = some i) (w : World) (g off : Nat) (ty : TypeId) (cs : Array Value) (u : Value) (hg : w.heap[g]? = some (.cells cs ty (0, 0)))
    (hs : u.cells.size = i.size) (hle : off + u.cells.size ≤ cs.size) (h1 : ∀ x ∈ u.cells.toList, x.oneCell' = true) :
    (Instr.storeAt t (.pointer (some ⟨g, off, none⟩)) u).run P w = .ok () (w.setRow g (cs.toList.take (off + 0) ++ u.cells.toList ++ cs.toList.drop (off + 0 + u.cells.toList.length)).toArray) := by
  have h2 := run_storeCells_at P g off ty u.cells.toList 0 cs w hg (by simpa using hle) h1
  simp only [Instr.storeAt, Instr.sureAddr, Sem.run_bind, Sem.run_pure, Result.andThen_ok, storeVar, run_sizeOf hi, hs, ne_eq, not_true_eq_false, if_false]
  exact h2
theorem fr_setRow (w : World) (g : Nat) (cs : Array Value) : Fr (fun x => x = g) w (w.setRow g cs) :=
  ⟨rfl, rfl, rfl, by simp, fun x _ hn => setRow_other w g x cs hn⟩
theorem good_store_row {t : TypeId} {a x : Operand} {va : RV} {s : Sv} {i : TypeInfo} {j off : Nat} {ty : TypeId} {l r : List Cell} (ho : o.op = .store t a x) (ha : Opd regs a va) (hx : Opd regs x (.s s))
    (hi : P.info? t = some i) (hn : i.size = s.cells.length) (hb : look bs j = some (.row ty l))
    (hva : ∀ O w hs u, RVRel O w va hs u → ∃ b, hs j = some (.pointer (some ⟨b, 0, none⟩)) ∧ u = .pointer (some ⟨b, off, none⟩))
    (hlen : r.length = l.length) (hle : off + s.cells.length ≤ l.length) (hr : ∀ m, r[m]? = if off ≤ m ∧ m < off + s.cells.length then s.cells[m - off]? else l[m]?) :
    Good P o regs bs nx .un [] [(j, .row ty l)] [(j, .row ty r)] nx := by
  refine good_upd hb fun F hs ρ w h hrel hw hh hbr => ?_
  obtain ⟨b, e1, e2⟩ := hva _ _ _ _ (hrel a (by simp [ho, Op.operands]) _ ha)
  have hrx := hrel x (by simp [ho, Op.operands]) _ hx
  obtain ⟨e3, e4⟩ := sv_cells hrx
  rw [hh] at e1
  simp only [Option.some.injEq] at e1
  subst e1
  obtain ⟨g, cs, e5, e6, e7, e8⟩ := hbr
  cases e5
  have hone : ∀ y ∈ (ρ x).cells.toList, y.oneCell' = true := by
    intro y hy
    obtain ⟨m, hm, hm'⟩ := List.getElem_of_mem hy
    have hm2 : m < s.cells.length := by rw [← e3]; simpa using hm
    have h2 : (ρ x).cells[m]? = some y := by rw [← hm']; simp
    exact rel_one (e4 m _ y (List.getElem?_eq_getElem hm2) h2)
  have hle' : off + (ρ x).cells.toList.length ≤ cs.size := by simp only [Array.length_toList]; omega
  have hrun := run_store_at (P := P) hi w b off ty cs (ρ x) e6 (by omega) (by simpa using hle') hone
  refine ⟨undef, _, .inr ⟨by simp only [execOp, ho, e2]; rw [Sem.run_bind, hrun]; rfl, rfl⟩, (fr_setRow w b _).mono fun y _ hy => by subst hy; rfl, fun y hy => hy, fun O' hO _ => ?_, fun O' _ => rfl⟩
  · refine ⟨b, _, rfl, setRow_heap w b cs _ ty _ e6, ?_, fun m c u hc hu => ?_⟩
    · rw [splice_size cs _ off hle', e7, hlen]
    · rw [splice_get cs _ off hle'] at hu
      rw [hr m] at hc
      have hmono : ∀ (c : Cell) (u : Value), Rel (Osum F hs (look [(j, .row ty l)])) w c hs u → Rel O' (w.setRow b (cs.toList.take (off + 0) ++ (ρ x).cells.toList ++ cs.toList.drop (off + 0 + (ρ x).cells.toList.length)).toArray) c hs u :=
        fun c u hcu => Rel.mono (by simp) (fun y hy hny => setRow_other w b y _ fun e => hny (by subst e; exact .inr ⟨j, .row ty l, _, by simp [look], hh, rfl⟩)) (fun y hy => .inl (hO y hy)) _ _ _ _ (fun _ _ h => h) hcu
      simp only [Array.length_toList, e3] at hu
      by_cases hin : off ≤ m ∧ m < off + s.cells.length
      · rw [if_pos hin] at hc hu
        exact hmono c u (e4 _ c u hc (by simpa using hu))
      · rw [if_neg hin] at hc hu
        exact hmono c u (e8 m c u hc hu)
theorem good_store_slc {t : TypeId} {a x : Operand} {s : Sv} {i : TypeInfo} {j q p t0 m : Nat} {ty : TypeId} {g : Nat → Nat → Cell} (ho : o.op = .store t a x) (ha : Opd regs a (.s (.c (.pos j q p t0)))) (hx : Opd regs x (.s s))
    (hi : P.info? t = some i) (hn : i.size = s.cells.length) (h0 : ∀ c ∈ s.cells, c.closed = true) (hb : look bs j = some (.slc ty q m g)) (hp : p < m) (hle : t0 + i.size ≤ q) :
    Good P o regs bs nx .un [] [(j, .slc ty q m g)] [(j, .slc ty q m (upd2 g p t0 s.cells))] nx := by
  refine good_upd hb fun F hs ρ w h hrel hw hh hbr => ?_
  obtain ⟨b, n, cap, e1, hpn, e2⟩ := hrel a (by simp [ho, Op.operands]) _ ha
  have hrx := hrel x (by simp [ho, Op.operands]) _ hx
  obtain ⟨e3, e4⟩ := sv_cells hrx
  rw [hh] at e1
  simp only [Option.some.injEq] at e1
  subst e1
  rcases hbr with ⟨h2, h3⟩ | ⟨b', cap', cs, e5, e6, e6', e7, e8, e9⟩
  · cases h2
  simp only [Value.slice.injEq, Option.some.injEq, Addr.mk.injEq, and_true] at e5
  obtain ⟨rfl, rfl, rfl⟩ := e5
  have hone : ∀ y ∈ (ρ x).cells.toList, y.oneCell' = true := by
    intro y hy
    obtain ⟨m', hm, hm'⟩ := List.getElem_of_mem hy
    have hm2 : m' < s.cells.length := by rw [← e3]; simpa using hm
    have h2 : (ρ x).cells[m']? = some y := by rw [← hm']; simp
    exact rel_one (e4 m' _ y (List.getElem?_eq_getElem hm2) h2)
  have hpq : p * q + q ≤ cap * q := by
    calc p * q + q = (p + 1) * q := by rw [Nat.add_mul, Nat.one_mul]
      _ ≤ cap * q := Nat.mul_le_mul_right _ (by omega)
  have hle' : p * q + t0 + (ρ x).cells.toList.length ≤ cs.size := by simp only [Array.length_toList]; omega
  have hrun := run_store_at (P := P) hi w b (p * q + t0) ty cs (ρ x) e7 (by omega) (by simpa using hle') hone
  refine ⟨undef, _, .inr ⟨by simp only [execOp, ho, e2]; rw [Sem.run_bind, hrun]; rfl, rfl⟩, (fr_setRow w b _).mono fun y _ hy => by subst hy; rfl, fun y hy => hy, fun O' hO _ => ?_, fun O' _ => rfl⟩
  · refine .inr ⟨b, cap, _, rfl, e6, e6', setRow_heap w b cs _ ty _ e7, ?_, fun p' hp' t' ht' u hu => ?_⟩
    · rw [splice_size cs _ _ hle', e8]
    · rw [splice_get cs _ _ hle'] at hu
      have hmono : ∀ (c : Cell) (u : Value), Rel (Osum F hs (look [(j, .slc ty q n g)])) w c noNames u → Rel O' (w.setRow b (cs.toList.take (p * q + t0 + 0) ++ (ρ x).cells.toList ++ cs.toList.drop (p * q + t0 + 0 + (ρ x).cells.toList.length)).toArray) c noNames u :=
        fun c u hcu => Rel.mono (by simp) (fun y hy hny => setRow_other w b y _ fun e => hny (by subst e; exact .inr ⟨j, .slc ty q n g, _, by simp [look], hh, rfl⟩)) (fun y hy => .inl (hO y hy)) _ _ _ _ (fun _ _ h => h) hcu
      simp only [Array.length_toList, e3] at hu
      unfold upd2
      by_cases hpp : p' = p
      · subst hpp
        by_cases hin : t0 ≤ t' ∧ t' < t0 + s.cells.length
        · rw [if_pos ⟨rfl, hin.1, hin.2⟩]
          rw [if_pos (by omega)] at hu
          have hidx : p' * q + t' - (p' * q + t0) = t' - t0 := by omega
          rw [hidx] at hu
          have hlt : t' - t0 < s.cells.length := by omega
          rw [List.getD_eq_getElem?_getD, List.getElem?_eq_getElem hlt]
          have h5 := e4 (t' - t0) _ u (List.getElem?_eq_getElem hlt) (by simpa using hu)
          exact hmono _ u (closed_rel (h0 _ (List.getElem_mem hlt)) h5)
        · rw [if_neg (by rintro ⟨_, h⟩; exact hin h)]
          rw [if_neg (by omega)] at hu
          exact hmono _ u (e9 p' hp' t' ht' u hu)
      · rw [if_neg (by rintro ⟨h, _⟩; exact hpp h)]
        have : ¬ (p * q + t0 ≤ p' * q + t' ∧ p' * q + t' < p * q + t0 + s.cells.length) := by
          rintro ⟨h2, h3⟩
          rcases Nat.lt_or_gt_of_ne hpp with h4 | h4
          · have : p' * q + q ≤ p * q := by
              calc p' * q + q = (p' + 1) * q := by rw [Nat.add_mul, Nat.one_mul]
                _ ≤ p * q := Nat.mul_le_mul_right _ h4
            omega
          · have : p * q + q ≤ p' * q := by
              calc p * q + q = (p + 1) * q := by rw [Nat.add_mul, Nat.one_mul]
                _ ≤ p' * q := Nat.mul_le_mul_right _ h4
            omega
        rw [if_neg this] at hu
        exact hmono _ u (e9 p' hp' t' ht' u hu)
end
end Go.Eng
namespace Go.Eng
open Go
/-- Cells as told. -/
def CsRel (O : Nat → Prop) (w : World) (hs : Names) (l : List Cell) (cs : Array Value) : Prop :=
  cs.size = l.length ∧ ∀ (i : Nat) (c : Cell) (u : Value), l[i]? = some c → cs[i]? = some u → Rel O w c hs u
theorem setAll_get : ∀ (vs : List Value) (k off : Nat) (cs : Array Value), off + k + vs.length ≤ cs.size →
    ((vs.zipIdx k).foldl (fun cs (c, j) => cs.setIfInBounds (off + j) c) cs).size = cs.size ∧
    ∀ m, ((vs.zipIdx k).foldl (fun cs (c, j) => cs.setIfInBounds (off + j) c) cs)[m]? = if off + k ≤ m ∧ m < off + k + vs.length then vs[m - (off + k)]? else cs[m]?
  | [], k, off, cs, _ => ⟨rfl, fun m => by rw [if_neg (by simp)]; rfl⟩
  | v :: vs, k, off, cs, h => by
    simp only [List.zipIdx_cons, List.foldl_cons]
    obtain ⟨h1, h2⟩ := setAll_get vs (k + 1) off (cs.setIfInBounds (off + k) v) (by simp at h ⊢; omega)
    refine ⟨by rw [h1]; simp, fun m => ?_⟩
    rw [h2 m]
    simp only [List.length_cons]
    by_cases e : m = off + k
    · subst e
      rw [if_neg (by omega), if_pos (by omega)]
      have : off + k < cs.size := by simp at h; omega
      simp [Array.getElem?_setIfInBounds, this]
    · by_cases e2 : off + (k + 1) ≤ m ∧ m < off + (k + 1) + vs.length
      · rw [if_pos e2, if_pos (by omega)]
        obtain ⟨d, hd⟩ : ∃ d, m - (off + k) = d + 1 := ⟨m - (off + k) - 1, by omega⟩
        rw [hd, List.getElem?_cons_succ]
        congr 1; omega
      · rw [if_neg e2, if_neg (by omega)]
        simp [Array.getElem?_setIfInBounds, Ne.symm e]
theorem fillK_spec {place : Nat → Option (Nat × Nat)} {regs : List RV} :
    ∀ (parts : List (Nat × Operand)) (l : List Cell) (k : List Cell → Prop), fillK place regs parts l k →
      ∃ l', k l' ∧ ∀ (O : Nat → Prop) (w : World) (hs : Names) (ρ : Operand → Value), (∀ (x : Operand) (v : RV), (∃ f, (f, x) ∈ parts) → Opd regs x v → RVRel O w v hs (ρ x)) → ∀ cs, CsRel O w hs l cs →
        ∃ cs', Instr.fill place cs (parts.map fun p => (p.1, ρ p.2)) = some cs' ∧ CsRel O w hs l' cs'
  | [], l, k, h => ⟨l, h, fun _ _ _ _ _ cs hc => ⟨cs, rfl, hc⟩⟩
  | (f, x) :: r, l, k, h => by
    obtain ⟨v, h1, h2⟩ := opK_spec _ _ _ h
    cases v with
    | tup _ => exact h2.elim
    | un => exact h2.elim
    | any => exact h2.elim
    | s v =>
      simp only at h2
      cases hp : place f with
      | none => rw [hp] at h2; exact h2.elim
      | some p =>
        obtain ⟨off, n⟩ := p
        rw [hp] at h2
        simp only at h2
        cases hb : Nat.beq n v.cells.length with
        | false => rw [hb] at h2; exact h2.elim
        | true =>
          rw [hb] at h2
          have hn := Nat.eq_of_beq_eq_true hb
          have h4 := h2
          obtain ⟨l1, h5, h6, h7, h8⟩ := ovrK_spec _ _ _ _ h4
          obtain ⟨l', h9, h10⟩ := fillK_spec r l1 k h5
          refine ⟨l', h9, fun O w hs ρ hx cs hc => ?_⟩
          obtain ⟨e1, e2⟩ := sv_cells (hx x (.s v) ⟨f, by simp⟩ h1)
          have hle : off + (ρ x).cells.size ≤ cs.size := by rw [e1, hc.1]; exact h7
          obtain ⟨e3, e4⟩ := setAll_get (ρ x).cells.toList 0 off cs (by simpa using hle)
          have hrel : CsRel O w hs l1 (((ρ x).cells.toList.zipIdx 0).foldl (fun cs (c, j) => cs.setIfInBounds (off + j) c) cs) := by
            refine ⟨by rw [e3, hc.1, h6], fun i c u hci hui => ?_⟩
            rw [h8 i] at hci
            rw [e4 i] at hui
            simp only [Nat.add_zero, Array.length_toList, e1] at hui
            by_cases hin : off ≤ i ∧ i < off + v.cells.length
            · rw [if_pos hin] at hci hui
              exact e2 _ c u hci (by simpa using hui)
            · rw [if_neg hin] at hci hui
              exact hc.2 i c u hci hui
          obtain ⟨cs', e5, e6⟩ := h10 O w hs ρ (fun y u hy hu => hx y u (by obtain ⟨g, hg⟩ := hy; exact ⟨g, by simp [hg]⟩) hu) _ hrel
          refine ⟨cs', ?_, e6⟩
          have hg1 : ((ρ x).cells.size != n) = false := by simp [e1, hn]
          simp only [List.map_cons, Instr.fill, hp]
          rw [if_neg (by simp [e1, hn]; rw [← e1]; exact hle)]
          have : (ρ x).cells.zipIdx.foldl (fun cs (c, j) => cs.setIfInBounds (off + j) c) cs = ((ρ x).cells.toList.zipIdx 0).foldl (fun cs (c, j) => cs.setIfInBounds (off + j) c) cs := by
            rw [← Array.foldl_toList, Array.toList_zipIdx]
          rw [this]
          exact e5
section
variable {P : Program} {o : Oper} {regs : List RV} {bs : List (Nat × Blk)} {nx : Nat} {rv : RV} {rd : List (Nat × Blk)}
theorem placesK_spec : ∀ (fs : List Field) (k : List (Nat × Nat) → Prop), placesK P fs k → ∃ pl, fs.mapM (fun f => (P.info? f.type).map fun i => (f.offset, i.size)) = some pl ∧ k pl
  | [], k, h => ⟨[], rfl, h⟩
  | f :: fs, k, h => by
    unfold placesK at h
    cases hi : P.info? f.type with
    | none => rw [hi] at h; exact h.elim
    | some i =>
      rw [hi] at h
      obtain ⟨pl, h1, h2⟩ := placesK_spec fs _ h
      exact ⟨(f.offset, i.size) :: pl, by simp [hi, h1], h2⟩
theorem build_operands {t : TypeId} {parts : Array (Nat × Operand)} (ho : o.op = .build t parts ∨ ∃ n, o.op = .buildSlice t n parts) {x : Operand} (h : ∃ f, (f, x) ∈ parts.toList) : x ∈ o.op.operands := by
  obtain ⟨f, hf⟩ := h
  rcases ho with ho | ⟨n, ho⟩ <;>
  · simp only [ho, Op.operands, List.mem_toArray, List.mem_map]
    exact ⟨_, hf, rfl⟩
theorem good_build {t : TypeId} {parts : Array (Nat × Operand)} {k : List Cell → Prop} (ho : o.op = .build t parts) (h : buildK P t regs parts.toList k) :
    ∃ l, k l ∧ Good P o regs bs nx (.s (.agg l)) [] [] [] nx := by
  have key : ∀ (place : Nat → Option (Nat × Nat)) (i : TypeInfo) (z : Value), P.info? t = some i → i.zero = some z → (∀ v ∈ z.cells.toList, v.oneCell' = true) →
      (∀ vs, P.built t vs = Instr.fill place z.cells vs) → fillK place regs parts.toList (z.cells.toList.map .v) k →
      ∃ l, k l ∧ Good P o regs bs nx (.s (.agg l)) [] [] [] nx := by
    intro place i z hi hz hz1 hb hf
    obtain ⟨l, h1, h2⟩ := fillK_spec _ _ _ hf
    refine ⟨l, h1, good_pure (sub_nil _) fun F hs ρ w hr hw => ?_⟩
    obtain ⟨cs', h3, h4⟩ := h2 (Osum F hs (look [])) w hs ρ (fun x v hx hv => hr x (build_operands (.inl ho) hx) v hv) z.cells
      ⟨by simp, fun i c u hc hu => by have hu' := hu; simp at hc; rw [hu] at hc; simp at hc; subst hc; exact ⟨rfl, hz1 u (by have := Array.mem_of_getElem? hu'; simpa using this)⟩⟩
    refine ⟨.agg cs', ?_, cs', rfl, h4.1, h4.2⟩
    simp only [execOp, ho]
    rw [Sem.run_bind, run_build w t _ cs' (by rw [hb]; simpa using h3)]
    rfl
  unfold buildK at h
  split at h
  · rename_i fs hu
    obtain ⟨pl, hp, h⟩ := placesK_spec _ _ h
    obtain ⟨i, z, hi, hz, h, hz1⟩ := zeroK_spec h
    refine key _ i z hi hz hz1 (fun vs => ?_) h
    simp only [Program.built, hi, hu, hz, hp]
    congr 1
    funext f
    simp
  · rename_i n e hu
    obtain ⟨ie, hie, h⟩ := sizeK_spec h
    obtain ⟨i, z, hi, hz, h, hz1⟩ := zeroK_spec h
    refine key _ i z hi hz hz1 (fun vs => ?_) h
    simp only [Program.built, hi, hu, hz, hie]
  · exact h.elim
/-- The cells of a literal's elements. -/
theorem elemsK_spec {n : Nat} : ∀ (parts : List (Nat × Operand)) (m : Nat) (k : List Cell → Prop), elemsK n regs parts m k →
    ∃ l, k l ∧ l.length = parts.length * n ∧ (∀ c ∈ l, c.closed = true) ∧ ∀ (O : Nat → Prop) (w : World) (hs : Names) (ρ : Operand → Value),
      (∀ (x : Operand) (v : RV), (∃ f, (f, x) ∈ parts) → Opd regs x v → RVRel O w v hs (ρ x)) → ∀ cs : Array Value, (m + parts.length) * n ≤ cs.size →
      ∃ cs', Instr.fill (fun i => some (i * n, n)) cs (parts.map fun p => (p.1, ρ p.2)) = some cs' ∧ cs'.size = cs.size ∧
        ∀ i, (i < m * n → cs'[i]? = cs[i]?) ∧ ∀ c u, l[i]? = some c → cs'[m * n + i]? = some u → Rel O w c noNames u
  | [], m, k, h => ⟨[], h, by simp, by simp, fun O w hs ρ _ cs _ => ⟨cs, rfl, rfl, fun i => ⟨fun _ => rfl, fun c u hc => by simp at hc⟩⟩⟩
  | (f, x) :: r, m, k, h => by
    unfold elemsK at h
    cases hb : Nat.beq f m with
    | false => rw [hb] at h; exact h.elim
    | true =>
      rw [hb] at h
      have hf := Nat.eq_of_beq_eq_true hb
      subst hf
      obtain ⟨v, h1, h2⟩ := opK_spec _ _ _ h
      cases v with
      | tup _ => exact h2.elim
      | un => exact h2.elim
      | any => exact h2.elim
      | s v =>
        simp only at h2
        cases hb2 : Nat.beq n v.cells.length with
        | false => rw [hb2] at h2; exact h2.elim
        | true =>
          rw [hb2] at h2
          have hn := Nat.eq_of_beq_eq_true hb2
          obtain ⟨h3, h4⟩ := closedK_spec _ _ h2
          obtain ⟨l, h5, h6, h7, h8⟩ := elemsK_spec r (f + 1) _ h4
          refine ⟨v.cells ++ l, h5, ?_, ?_, fun O w hs ρ hx cs hc => ?_⟩
          · simp only [List.length_append, List.length_cons, h6, ← hn, Nat.add_mul]; omega
          · intro c hc
            rcases List.mem_append.1 hc with hc | hc
            · exact h3 c hc
            · exact h7 c hc
          · obtain ⟨e1, e2⟩ := sv_cells (hx x (.s v) ⟨f, by simp⟩ h1)
            have hmul : (f + ((f, x) :: r).length) * n = f * n + n + r.length * n := by
              simp only [List.length_cons]; rw [show f + (r.length + 1) = f + 1 + r.length by omega, Nat.add_mul, Nat.add_mul, Nat.one_mul]
            rw [hmul] at hc
            have hle : f * n + (ρ x).cells.size ≤ cs.size := by rw [e1, ← hn]; omega
            obtain ⟨e3, e4⟩ := setAll_get (ρ x).cells.toList 0 (f * n) cs (by simpa using hle)
            obtain ⟨cs', e5, e6, e7⟩ := h8 O w hs ρ (fun y u hy hu => hx y u (by obtain ⟨g, hg⟩ := hy; exact ⟨g, by simp [hg]⟩) hu)
              (((ρ x).cells.toList.zipIdx 0).foldl (fun cs (c, j) => cs.setIfInBounds (f * n + j) c) cs)
              (by rw [e3, show f + 1 + r.length = f + 1 + r.length from rfl, Nat.add_mul, Nat.add_mul, Nat.one_mul]; exact hc)
            refine ⟨cs', ?_, by rw [e6, e3], fun i => ⟨fun hi => ?_, fun c u hci hui => ?_⟩⟩
            · simp only [List.map_cons, Instr.fill]
              have hc1 : (ρ x).cells.size = n := by rw [e1, hn]
              rw [if_neg (by rw [hc1] at hle; simp [hc1]; exact hle)]
              have : (ρ x).cells.zipIdx.foldl (fun cs (c, j) => cs.setIfInBounds (f * n + j) c) cs = ((ρ x).cells.toList.zipIdx 0).foldl (fun cs (c, j) => cs.setIfInBounds (f * n + j) c) cs := by
                rw [← Array.foldl_toList, Array.toList_zipIdx]
              rw [this]
              exact e5
            · rw [(e7 i).1 (by rw [Nat.add_mul]; omega), e4 i, if_neg (by omega)]
            · by_cases hin : i < v.cells.length
              · rw [List.getElem?_append_left hin] at hci
                rw [(e7 (f * n + i)).1 (by rw [Nat.add_mul, Nat.one_mul]; omega), e4, if_pos (by simp [e1]; omega)] at hui
                have h9 := e2 i c u hci (by simpa using hui)
                exact closed_rel (h3 c (List.mem_of_getElem? hci)) h9
              · rw [List.getElem?_append_right (by omega)] at hci
                refine (e7 (i - v.cells.length)).2 c u hci ?_
                rw [← hui, Nat.add_mul, Nat.one_mul]
                congr 1
                omega
theorem weak1_rel {c c' : Cell} (h : Weak1 c c') {O : Nat → Prop} {w : World} {u : Value} (hr : Rel O w c noNames u) : Rel O w c' noNames u := by
  rcases h with rfl | ⟨rfl, q, tt, g, rfl⟩ | ⟨n, q, tt, g, tt', g', rfl, rfl, h1, h2⟩
  · exact hr
  · obtain ⟨rfl, _⟩ := hr
    exact ⟨none, 0, rfl, Nat.le_refl _, fun _ => rfl, fun _ => rfl, fun h => absurd h (Nat.lt_irrefl _)⟩
  · obtain ⟨a, cap, e1, e2, e3, e4, e5⟩ := hr
    refine ⟨a, cap, e1, e2, fun h => e3 (h1 h), e4, fun hn => ?_⟩
    obtain ⟨b, off, f1, f2, f3, f4⟩ := e5 hn
    refine ⟨b, off, f1, f2, f3, fun i hi t ht => ?_⟩
    rw [← h2 i hi t ht]
    exact f4 i hi t ht
theorem weak_at {l l' : List Cell} (h : Weak l l') : ∀ {i : Nat} {c c' : Cell}, l[i]? = some c → l'[i]? = some c' → Weak1 c c' := by
  induction h with
  | nil => intro i c c' hc; simp at hc
  | cons h1 _ ih =>
    intro i c c' hc hc'
    cases i with
    | zero =>
      simp only [List.getElem?_cons_zero, Option.some.injEq] at hc hc'
      subst hc; subst hc'
      exact h1
    | succ i => exact ih (by simpa using hc) (by simpa using hc')
theorem weak_rel {l l' : List Cell} (h : Weak l l') {i : Nat} {c c' : Cell} (hc : l[i]? = some c) (hc' : l'[i]? = some c') {O : Nat → Prop} {w : World} {u : Value} (hr : Rel O w c noNames u) : Rel O w c' noNames u :=
  weak1_rel (weak_at h hc hc') hr
theorem good_buildSlice {t e : TypeId} {len : Nat} {parts : Array (Nat × Operand)} {i : TypeInfo} {z : Value} {k : List Cell → Prop} (ho : o.op = .buildSlice t len parts) (ht : P.underlying t = some (.slice e))
    (hi : P.info? e = some i) (hz : i.zero = some z) (hlen : parts.size = len) (hsm : len * i.size ≤ 10000) (hpos : 1 ≤ i.size) (h : elemsK i.size regs parts.toList 0 fun l => weakK P e l k) :
    ∃ l, k l ∧ Good P o regs bs nx (.s (.c (.osl nx))) [] [] [(nx, .slc e i.size len (litG i.size l))] (nx + 1) := by
  obtain ⟨l, h1, h2, h3, h4⟩ := elemsK_spec _ _ _ h
  obtain ⟨l', h1', hweak⟩ := weakK_spec h1
  have hwl : l'.length = l.length := hweak.len
  refine ⟨l', h1', good_new (sub_nil _) fun F hs ρ w hr hw => ?_⟩
  obtain ⟨row, hrow, hre⟩ : ∃ row : Array Value, row.size = len * i.size ∧
      row = (Array.range (len * i.size)).map ((if len * i.size = 0 then #[] else z.cells)[· % (if len * i.size = 0 then #[] else z.cells).size]!) := ⟨_, by simp, rfl⟩
  obtain ⟨cs', e1, e2, e3⟩ := h4 (Osum F hs (look [])) w hs ρ (fun x v hx hv => hr x (build_operands (.inr ⟨len, ho⟩) hx) v hv) row (by simp [hrow, hlen])
  refine ⟨.slice (some ⟨w.heap.size, 0, none⟩) len len, .slice (some ⟨w.heap.size, 0, none⟩) len len, w.alloc (.cells cs' e), ?_, fr_alloc _ _, ?_, ?_, ?_⟩
  · have hp : (parts.map fun x => match x with | (i, x) => (i, ρ x)).toList = parts.toList.map fun p => (p.1, ρ p.2) := by simp
    have hbig : ¬ (len * i.size > 2 ^ 24) := by omega
    simp only [execOp, ho, Sem.run_bind, Instr.buildSlice, run_underlying ht, Result.andThen_ok, run_sizeOf hi, hbig, if_false]
    by_cases e0 : len * i.size = 0
    · rw [if_pos e0] at hre ⊢
      simp only [Sem.run_bind, Sem.run_pure, Result.andThen_ok, ← hre, hp, e1]
      rfl
    · rw [if_neg e0] at hre ⊢
      have hzv : (zeroValue e).run P w = .ok z w := by simp [zeroValue, typeInfo, hi, hz]
      simp only [Sem.run_bind, hzv, Sem.run_pure, Result.andThen_ok, ← hre, hp, e1]
      rfl
  · intro hs' O' hext hO _
    refine .inr ⟨w.heap.size, len, cs', rfl, Nat.le_refl _, ?_, alloc_new _ _, by rw [e2, hrow], fun p hp t' ht' u hu => ?_⟩
    · have : len ≤ len * i.size := Nat.le_mul_of_pos_right _ hpos
      simp only [maxLen]; omega
    · have hlt : p * i.size + t' < l.length := by
        rw [h2]
        simp only [Array.length_toList, hlen]
        calc p * i.size + t' < p * i.size + i.size := by omega
          _ = (p + 1) * i.size := by rw [Nat.add_mul, Nat.one_mul]
          _ ≤ len * i.size := Nat.mul_le_mul_right _ hp
      have h5 := (e3 (p * i.size + t')).2 _ u (List.getElem?_eq_getElem hlt) (by simpa using hu)
      unfold litG
      have hlt' : p * i.size + t' < l'.length := by rw [hwl]; exact hlt
      have h6 := weak_rel hweak (List.getElem?_eq_getElem hlt) (List.getElem?_eq_getElem hlt') h5
      rw [List.getD_eq_getElem?_getD, List.getElem?_eq_getElem hlt']
      exact Rel.mono (by simp) (fun y hy _ => RowKit.Below.heap_alloc w _ y hy) hO _ _ _ _ (fun _ _ h => h) h6
  · intro x hx; simp [owner] at hx; omega
  · intro hs' O' _ hn _
    exact ⟨hn, _, _, _, rfl⟩
end
end Go.Eng
namespace Go.Eng
open Go
/-- A slice value that reads. -/
def Reads (O : Nat → Prop) (w : World) (n q : Nat) (g : Nat → Nat → Cell) (u : Value) : Prop :=
  ∃ a cap, u = .slice a n cap ∧ n ≤ cap ∧ (a = none → cap = 0) ∧ (0 < n → ∃ b off, a = some ⟨b, off, none⟩ ∧
    ∀ i, i < n → ∀ t, t < q → ∃ x, w.cell? ⟨b, off + (i * q + t), none⟩ = some x ∧ Rel O w (g i t) noNames x)
section
variable {P : Program} {o : Oper} {regs : List RV} {bs : List (Nat × Blk)} {nx : Nat} {rv : RV} {rd : List (Nat × Blk)}
theorem ro_reads {O : Nat → Prop} {w : World} {n q : Nat} {t : Bool} {g : Nat → Nat → Cell} {hs : Names} {u : Value} (h : Rel O w (.ro n q t g) hs u) : Reads O w n q g u := by
  obtain ⟨a, cap, h1, h2, _, h3, h4⟩ := h
  exact ⟨a, cap, h1, h2, h3, fun hn => by obtain ⟨b, off, h5, _, _, h6⟩ := h4 hn; exact ⟨b, off, h5, h6⟩⟩
theorem slc_reads {F : Nat → Prop} {hs : Names} {B : Mem} {w : World} (hw : WRep F hs B w) {j : Nat} {ty : TypeId} {q n : Nat} {g : Nat → Nat → Cell} (hj : B j = some (.slc ty q n g))
    {u : Value} (hu : hs j = some u) : Reads (Osum F hs B) w n q g u := by
  obtain ⟨h, hh, hr⟩ := hw.blk j _ hj
  rw [hu] at hh; cases hh
  rcases hr with ⟨rfl, rfl⟩ | ⟨x, cap, cs, rfl, h2, _, h3, h4, h5⟩
  · exact ⟨none, 0, rfl, Nat.le_refl _, fun _ => rfl, fun h => absurd h (by omega)⟩
  · refine ⟨_, cap, rfl, h2, (fun h => by cases h), fun _ => ⟨x, 0, rfl, fun i hi t ht => ?_⟩⟩
    have hlt : i * q + t < cs.size := by
      rw [h4]
      calc i * q + t < i * q + q := by omega
        _ = (i + 1) * q := by rw [Nat.add_mul, Nat.one_mul]
        _ ≤ cap * q := Nat.mul_le_mul_right _ (by omega)
    exact ⟨cs[i * q + t], by simp [World.cell?, h3, Array.getElem?_eq_getElem hlt], h5 i hi t ht _ (Array.getElem?_eq_getElem hlt)⟩
theorem readsK_spec {vx : RV} {k : Nat → Nat → (Nat → Nat → Cell) → List (Nat × Blk) → Prop} (h : readsK bs vx k) :
    ∃ n q g rd, k n q g rd ∧ Sub (look rd) (look bs) ∧
      ((rd = [] ∧ ∃ t, vx = .s (.c (.ro n q t g))) ∨ (∃ j ty, rd = [(j, .slc ty q n g)] ∧ vx = .s (.c (.osl j)) ∧ look bs j = some (.slc ty q n g)) ∨ (∃ j, rd = [(j, .fsl q n g)] ∧ vx = .s (.c (.osl j)) ∧ look bs j = some (.fsl q n g))) ∧
      ∀ F hs (B : Mem) w u, Sub (look rd) B → WRep F hs B w → RVRel (Osum F hs B) w vx hs u → Reads (Osum F hs B) w n q g u := by
  unfold readsK at h
  split at h
  · exact ⟨_, _, _, _, h, sub_nil _, .inl ⟨rfl, _, rfl⟩, fun F hs B w u _ _ hu => ro_reads (hs := hs) hu⟩
  · rename_i j
    obtain ⟨b, hb, h⟩ := lookK_spec _ _ _ h
    split at h
    · rename_i ty q n g
      refine ⟨_, _, _, _, h, sub_one hb, .inr (.inl ⟨j, ty, rfl, rfl, hb⟩), fun F hs B w u hsub hw hu => slc_reads hw (hsub j _ (by simp [look]; rfl)) hu.1⟩
    · rename_i q n g
      refine ⟨_, _, _, _, h, sub_one hb, .inr (.inr ⟨j, rfl, rfl, hb⟩), fun F hs B w u hsub hw hu => ?_⟩
      obtain ⟨v', hv', hr⟩ := hw.blk j (.fsl q n g) (hsub j _ (by simp [look]))
      rw [hu.1] at hv'; cases hv'
      exact ro_reads (hs := noNames) hr
    · exact h.elim
  · exact h.elim
/-- Cells as one list. -/
theorem Reads.list {O : Nat → Prop} {w : World} {n q : Nat} {g : Nat → Nat → Cell} {u : Value} (h : Reads O w n q g u) :
    ∃ (a : Option Addr) (cap : Nat) (xs : List Value), u = .slice a n cap ∧ n ≤ cap ∧ (a = none → cap = 0) ∧ xs.length = n * q ∧ (∀ i, i < n → ∀ t, t < q → ∀ x, xs[i * q + t]? = some x → Rel O w (g i t) noNames x) ∧ (∀ x ∈ xs, x.oneCell' = true) ∧
      (0 < n → ∃ b off, a = some ⟨b, off, none⟩ ∧ ∀ (j : Nat) x, xs[j]? = some x → w.cell? ((⟨b, off, none⟩ : Addr).add j) = some x) := by
  obtain ⟨a, cap, h1, h2, h3, h4⟩ := h
  rcases Nat.eq_zero_or_pos n with h0 | h0
  · subst h0
    exact ⟨a, cap, [], h1, h2, h3, by simp, fun i hi => by omega, by simp, fun h => absurd h (by omega)⟩
  · obtain ⟨b, off, rfl, h5⟩ := h4 h0
    have hq : ∀ j, j < n * q → ∃ i t, i < n ∧ t < q ∧ j = i * q + t := by
      intro j hj
      have hq0 : 0 < q := by rcases Nat.eq_zero_or_pos q with h | h; (subst h; simp at hj); exact h
      exact ⟨j / q, j % q, Nat.div_lt_of_lt_mul (by rw [Nat.mul_comm]; exact hj), Nat.mod_lt _ hq0, by rw [Nat.mul_comm]; exact (Nat.div_add_mod j q).symm⟩
    have hcell : ∀ j, j < n * q → ∃ x, w.cell? ⟨b, off + j, none⟩ = some x ∧ x.oneCell' = true := by
      intro j hj
      obtain ⟨i, t, hi, ht, rfl⟩ := hq j hj
      obtain ⟨x, hx, hr⟩ := h5 i hi t ht
      exact ⟨x, hx, rel_one hr⟩
    refine ⟨_, cap, (List.range (n * q)).map fun j => (w.cell? ⟨b, off + j, none⟩).getD undef, h1, h2, h3, by simp, fun i hi t ht x hx => ?_, fun x hx => ?_, fun _ => ⟨b, off, rfl, fun j x hx => ?_⟩⟩
    · obtain ⟨y, hy, hr⟩ := h5 i hi t ht
      have hlt : i * q + t < n * q := by
        calc i * q + t < i * q + q := by omega
          _ = (i + 1) * q := by rw [Nat.add_mul, Nat.one_mul]
          _ ≤ n * q := Nat.mul_le_mul_right _ (by omega)
      simp [hlt, hy] at hx
      subst hx
      exact hr
    · simp at hx
      obtain ⟨j, hj, rfl⟩ := hx
      obtain ⟨x, hx, h1⟩ := hcell j hj
      rw [hx]; exact h1
    · have hj : j < n * q := by
        have := (List.getElem?_eq_some_iff.1 hx).1
        simpa using this
      obtain ⟨y, hy, _⟩ := hcell j hj
      simp [hj, hy] at hx
      subst hx
      rw [addr_add]; exact hy
theorem good_makeSlice {t e : TypeId} {l c : Operand} {a : Int} {i : TypeInfo} {z : Value} (ho : o.op = .makeSlice t l c) (ht : P.underlying t = some (.slice e)) (hl : Opd regs l (.s (.c (.v (.int .i64 a)))))
    (hc : Opd regs c (.s (.c (.v (.int .i64 a))))) (hi : P.info? e = some i) (hz : i.zero = some z) (hz1 : ∀ v ∈ z.cells.toList, v.oneCell' = true) (hzs : i.size = (z.cells.toList.map Cell.v).length) (hp : 1 ≤ i.size)
    (h0 : 0 ≤ a) (hb : (i.bytes : Int) * a ≤ 281474976710656) (h63 : a ≤ 9223372036854775807)
    {l' : List Cell} (hweak : Weak (z.cells.toList.map Cell.v) l') :
    Good P o regs bs nx (.s (.c (.osl nx))) [] [] [(nx, .slc e i.size a.toNat fun _ t => l'.getD t .any)] (nx + 1) := by
  refine good_new (sub_nil _) fun F hs ρ w hr hw => ?_
  have e1 := rel_v (hr l (by simp [ho, Op.operands]) _ hl)
  have e2 := rel_v (hr c (by simp [ho, Op.operands]) _ hc)
  have hrun := run_make (P := P) w t e i z ht hi hz .i64 .i64 a a h0 (Int.le_refl _) hb h63
  have hzs' : i.size = z.cells.size := by simpa using hzs
  refine ⟨_, .slice (some ⟨w.heap.size, 0, none⟩) a.toNat a.toNat, _, by simp only [execOp, ho, e1, e2]; rw [Sem.run_bind, hrun]; rfl, fr_alloc _ _, ?_, ?_, ?_⟩
  · intro hs' O' _ _ _
    refine .inr ⟨w.heap.size, a.toNat, _, rfl, Nat.le_refl _, by simp only [maxLen]; omega, alloc_new _ _, by rw [size_madeCells], fun p hp' t' ht' u hu => ?_⟩
    have hlt : p * i.size + t' < a.toNat * i.size := by
      calc p * i.size + t' < p * i.size + i.size := by omega
        _ = (p + 1) * i.size := by rw [Nat.add_mul, Nat.one_mul]
        _ ≤ a.toNat * i.size := Nat.mul_le_mul_right _ hp'
    have hmod : (p * i.size + t') % z.cells.size = t' := by
      rw [← hzs', Nat.mul_comm, Nat.mul_add_mod]; exact Nat.mod_eq_of_lt ht'
    have htz : t' < z.cells.size := by omega
    simp only [madeCells, Array.getElem?_map, Array.getElem?_range, hlt, if_true, Option.map_some, Option.some.injEq, hmod] at hu
    rw [getElem!_pos z.cells t' htz] at hu
    subst hu
    show Rel O' _ (l'.getD t' .any) noNames _
    have hwl : l'.length = z.cells.size := by rw [hweak.len]; simp
    have hlt' : t' < l'.length := by omega
    rw [List.getD_eq_getElem?_getD, List.getElem?_eq_getElem hlt']
    refine weak_rel hweak (i := t') (c := .v z.cells[t']) (by simp [Array.getElem?_eq_getElem htz]) (List.getElem?_eq_getElem hlt') ⟨rfl, hz1 _ (by simp)⟩
  · intro x hx; simp [owner] at hx; omega
  · intro hs' O' _ hn _
    exact ⟨hn, _, _, _, rfl⟩
/-- A slice expression, its bounds given. -/
theorem run_cut {t e : TypeId} {inf : TypeInfo} (ht : P.underlying t = some (.slice e)) (hi : P.info? e = some inf) (w : World) (A : Option Addr) (n cap : Nat) (lo hi' mx : Option Value) (a b c : Int)
    (hlo : (lo = none ∧ a = 0) ∨ ∃ q, lo = some (.int q a)) (hhi : (hi' = none ∧ b = n) ∨ ∃ q, hi' = some (.int q b)) (hmx : (mx = none ∧ c = cap) ∨ (∃ q q', hi' = some (.int q' b) ∧ mx = some (.int q c)))
    (h0 : 0 ≤ a) (h1 : a ≤ b) (h2 : b ≤ c) (h3 : c ≤ cap) (hn : n ≤ cap) :
    (Instr.sliceAt t (.slice A n cap) lo hi' mx).run P w = .ok (.slice (if c.toNat = a.toNat then A else A.map (·.add (a.toNat * inf.size))) (b.toNat - a.toNat) (c.toNat - a.toNat)) w := by
  have eb : (b.toNat : Int) = b := Int.toNat_of_nonneg (by omega)
  have ec : (c.toNat : Int) = c := Int.toNat_of_nonneg (by omega)
  have hb : ∀ q y code, b ≤ (y : Nat) → (Instr.sliceBound (.int q b) y code).run P w = .ok b.toNat w := fun q y code h => run_sliceBound w q b y code (by omega) h
  have ha : ∀ q y code, a ≤ (y : Nat) → (Instr.sliceBound (.int q a) y code).run P w = .ok a.toNat w := fun q y code h => run_sliceBound w q a y code (by omega) h
  have hc : ∀ q y code, c ≤ (y : Nat) → (Instr.sliceBound (.int q c) y code).run P w = .ok c.toNat w := fun q y code h => run_sliceBound w q c y code (by omega) h
  have key : (Instr.sliceBounds true n cap lo hi' mx).run P w = .ok (a.toNat, b.toNat, c.toNat) w := by
    unfold Instr.sliceBounds
    rcases hmx with ⟨rfl, rfl⟩ | ⟨q, q', rfl, rfl⟩
    · rcases hhi with ⟨rfl, rfl⟩ | ⟨q2, rfl⟩
      · rcases hlo with ⟨rfl, rfl⟩ | ⟨q1, rfl⟩
        · simp
        · simp [Sem.run_bind, ha q1 n _ h1]
      · rcases hlo with ⟨rfl, rfl⟩ | ⟨q1, rfl⟩
        · simp [Sem.run_bind, hb q2 cap _ h2]
        · simp [Sem.run_bind, hb q2 cap _ h2, ha q1 b.toNat _ (by omega)]
    · rcases hlo with ⟨rfl, rfl⟩ | ⟨q1, rfl⟩
      · simp [Sem.run_bind, hc q cap _ h3, hb q' c.toNat _ (by omega)]
      · simp [Sem.run_bind, hc q cap _ h3, hb q' c.toNat _ (by omega), ha q1 b.toNat _ (by omega)]
  have hs : (Instr.slice t (.slice A n cap) lo hi' mx).run P w = .ok (.slice (if c.toNat = a.toNat then A else A.map (·.add (a.toNat * inf.size))) (b.toNat - a.toNat) (c.toNat - a.toNat)) w := by
    simp only [Instr.slice, Sem.run_bind, run_underlying ht, Result.andThen_ok, key, run_sizeOf hi, Sem.run_pure]
  simp only [Instr.sliceAt, Sem.run_bind, run_underlying ht, Result.andThen_ok]
  exact hs
theorem cut_rel {O O' : Nat → Prop} {w : World} {n q : Nat} {g : Nat → Nat → Cell} {A : Option Addr} {cap : Nat} {a b c : Int} {tight : Bool} {hs : Names}
    (hA : A = none → cap = 0) (hr : 0 < n → ∃ x off, A = some ⟨x, off, none⟩ ∧ ¬ O' x ∧ x < w.heap.size ∧ ∀ i, i < n → ∀ t, t < q → ∃ y, w.cell? ⟨x, off + (i * q + t), none⟩ = some y ∧ Rel O w (g i t) noNames y)
    (ho : ∀ x, O' x → O x) (h0 : 0 ≤ a) (h1 : a ≤ b) (h2 : b ≤ n) (h3 : b ≤ c) (_h4 : c ≤ cap) (ht : tight = true → c = b) :
    Rel O' w (.ro (b - a).toNat q tight fun i t => g (a.toNat + i) t) hs (.slice (if c.toNat = a.toNat then A else A.map (·.add (a.toNat * q))) (b.toNat - a.toNat) (c.toNat - a.toNat)) := by
  have e : (b - a).toNat = b.toNat - a.toNat := by omega
  have hc0 : 0 ≤ c := by omega
  refine ⟨(if c.toNat = a.toNat then A else A.map (·.add (a.toNat * q))), c.toNat - a.toNat, by rw [e], by omega, fun h => by have := ht h; omega, fun hn => ?_, fun hn => ?_⟩
  · split at hn
    · omega
    · cases A with
      | none => have := hA rfl; omega
      | some x => simp at hn
  · have hn0 : 0 < n := by omega
    have hne : ¬ c.toNat = a.toNat := by omega
    obtain ⟨x, off, rfl, hx, hx2, hcells⟩ := hr hn0
    rw [if_neg hne]
    refine ⟨x, off + a.toNat * q, by simp [addr_add], hx, hx2, fun i hi t ht' => ?_⟩
    have hlt : a.toNat + i < n := by
      rw [e] at hi
      clear hr hcells e
      omega
    obtain ⟨y, h5, h6⟩ := hcells (a.toNat + i) hlt t ht'
    refine ⟨y, ?_, Rel.mono (Nat.le_refl _) (fun _ _ _ => rfl) (fun x h => .inl (ho x h)) _ _ _ _ (fun _ _ h => h) h6⟩
    rw [← h5]
    congr 2
    rw [Nat.add_mul]; omega
/-- A slice that is cut is from now on to be read alone. -/
def fzL (rd : List (Nat × Blk)) : List (Nat × Blk) :=
  match rd with
  | [(j, .slc _ q n g)] => [(j, .fsl q n g)]
  | rd => rd
theorem good_cut {t e : TypeId} {x : Operand} {vx : RV} {lo hi mx : Option Operand} {inf : TypeInfo} {n q : Nat} {g : Nat → Nat → Cell} {rd : List (Nat × Blk)} {a b : Int} {tight : Bool}
    (ho : o.op = .slice t x lo hi mx) (ht : P.underlying t = some (.slice e)) (hx : Opd regs x vx) (hi' : P.info? e = some inf) (hq : inf.size = q)
    (hrd : (rd = [] ∧ ∃ t, vx = .s (.c (.ro n q t g)) ∧ (tight = true → (∃ m, mx = some m) ∨ (t = true ∧ b = n))) ∨
      (∃ j ty, rd = [(j, .slc ty q n g)] ∧ vx = .s (.c (.osl j)) ∧ look bs j = some (.slc ty q n g) ∧ (tight = true → ∃ m, mx = some m)) ∨
      (∃ j, rd = [(j, .fsl q n g)] ∧ vx = .s (.c (.osl j)) ∧ look bs j = some (.fsl q n g) ∧ (tight = true → ∃ m, mx = some m)))
    (hlo : (lo = none ∧ a = 0) ∨ ∃ y q, lo = some y ∧ Opd regs y (.s (.c (.v (.int q a))))) (hhi : (hi = none ∧ b = n) ∨ ∃ y q, hi = some y ∧ Opd regs y (.s (.c (.v (.int q b)))))
    (hmx : mx = none ∨ ∃ y q z q', mx = some y ∧ Opd regs y (.s (.c (.v (.int q b)))) ∧ hi = some z ∧ Opd regs z (.s (.c (.v (.int q' b)))))
    (h0 : 0 ≤ a) (h1 : a ≤ b) (h2 : b ≤ n) :
    Good P o regs bs nx (.s (.c (.ro (b - a).toNat q tight fun i t => g (a.toNat + i) t))) [] rd (fzL rd) nx := by
  have hm : x ∈ o.op.operands := by simp [ho, Op.operands]
  have run : ∀ (F : Nat → Prop) (hs : Names) (ρ : Operand → Value) (w : World) (B : Mem) (A : Option Addr) (cap : Nat),
      (∀ x ∈ o.op.operands, ∀ v, Opd regs x v → RVRel (Osum F hs B) w v hs (ρ x)) → ρ x = .slice A n cap → n ≤ cap →
      ∃ c : Int, b ≤ c ∧ c ≤ cap ∧ (mx = none → c = cap) ∧ ((∃ m, mx = some m) → c = b) ∧
        (execOp ρ o).run P w = .ok (.value (.slice (if c.toNat = a.toNat then A else A.map (·.add (a.toNat * q))) (b.toNat - a.toNat) (c.toNat - a.toNat))) w := by
    intro F hs ρ w B A cap hr hA hcap
    have elo : ((lo.map ρ) = none ∧ a = 0) ∨ ∃ q, (lo.map ρ) = some (.int q a) := by
      rcases hlo with ⟨rfl, rfl⟩ | ⟨y, q, rfl, hy⟩
      · exact .inl ⟨rfl, rfl⟩
      · exact .inr ⟨q, by simp [rel_v (hr y (by simp [ho, Op.operands]) _ hy)]⟩
    have ehi : ((hi.map ρ) = none ∧ b = n) ∨ ∃ q, (hi.map ρ) = some (.int q b) := by
      rcases hhi with ⟨rfl, rfl⟩ | ⟨y, q, rfl, hy⟩
      · exact .inl ⟨rfl, rfl⟩
      · exact .inr ⟨q, by simp [rel_v (hr y (by simp [ho, Op.operands]) _ hy)]⟩
    rcases hmx with rfl | ⟨y, q1, z, q2, rfl, hy, rfl, hz⟩
    · refine ⟨cap, by omega, Int.le_refl _, fun _ => rfl, (fun ⟨m, hm⟩ => by cases hm), ?_⟩
      have := run_cut (P := P) ht hi' w A n cap (lo.map ρ) (hi.map ρ) none a b cap elo ehi (.inl ⟨rfl, rfl⟩) h0 h1 (by omega) (Int.le_refl _) hcap
      rw [hq] at this
      simp only [execOp, ho, hA, Option.map_none]
      rw [Sem.run_bind, this]
      rfl
    · refine ⟨b, Int.le_refl _, by omega, (fun h => by cases h), fun _ => rfl, ?_⟩
      have e1 := rel_v (hr y (by simp [ho, Op.operands]) _ hy)
      have e2 := rel_v (hr z (by simp [ho, Op.operands]) _ hz)
      have := run_cut (P := P) ht hi' w A n cap (lo.map ρ) (some (ρ z)) (some (ρ y)) a b b elo (.inr ⟨q2, by rw [e2]⟩) (.inr ⟨q1, q2, by rw [e2], by rw [e1]⟩) h0 h1 (Int.le_refl _) (by omega) hcap
      rw [hq] at this
      simp only [execOp, ho, hA, Option.map_some]
      rw [Sem.run_bind, this]
      rfl
  rcases hrd with ⟨rfl, t', rfl, htt⟩ | ⟨j, ty, rfl, rfl, hb, htt⟩ | ⟨j, rfl, rfl, hb, htt⟩
  · refine good_pure (sub_nil _) fun F hs ρ w hr hw => ?_
    obtain ⟨A, cap, e1, e2, e3, e4, e5⟩ := hr x hm _ hx
    obtain ⟨c, c1, c2, c3, c4, c5⟩ := run F hs ρ w _ A cap hr e1 e2
    refine ⟨_, c5, cut_rel (hs := hs) e4 e5 (fun _ h => h) h0 h1 h2 c1 c2 fun h => ?_⟩
    rcases htt h with hm | ⟨ht', hbn⟩
    · exact c4 hm
    · rcases hmx with hmx | ⟨y, q1, z, q2, hy, _⟩
      · rw [c3 hmx, e3 ht', hbn]
      · exact c4 ⟨y, hy⟩
  · refine good_upd hb fun F hs ρ w h hr hw hh hbr => ?_
    obtain ⟨e0, _⟩ := hr x hm _ hx
    rw [hh] at e0
    simp only [Option.some.injEq] at e0
    subst e0
    rcases hbr with ⟨hnil, hn0⟩ | ⟨x0, cap, cs, hv, e2, _, e3, e4, e5⟩
    · obtain ⟨c, c1, c2, c3, c4, c5⟩ := run F hs ρ w _ none 0 hr (by rw [hnil, hn0]) (by omega)
      refine ⟨_, w, .inl c5, Fr.refl _ _, fun y hy => by simp [owner] at hy, fun O' _ _ => ?_, fun O' hO => ?_⟩
      · exact ⟨none, 0, by rw [hnil, hn0], by omega, (fun h => by cases h), fun _ => rfl, fun h => absurd h (by omega)⟩
      · exact cut_rel (O := fun x => O' x) (hs := hs) (fun _ => rfl) (fun h => absurd h (by omega)) (fun _ h => h) h0 h1 h2 c1 c2 fun h => c4 (htt h)
    · obtain ⟨c, c1, c2, c3, c4, c5⟩ := run F hs ρ w _ (some ⟨x0, 0, none⟩) cap hr hv e2
      have hrow : ∀ O' : Nat → Prop, (∀ y, O' y → Osum F hs (look [(j, .slc ty q n g)]) y ∧ (owner (.slc ty q n g) (ρ x) = some y → owner (.fsl q n g) (ρ x) = some y)) →
          0 < n → ∃ x off, some (⟨x0, 0, none⟩ : Addr) = some ⟨x, off, none⟩ ∧ ¬ O' x ∧ x < w.heap.size ∧ ∀ i, i < n → ∀ t, t < q → ∃ y, w.cell? ⟨x, off + (i * q + t), none⟩ = some y ∧ Rel (Osum F hs (look [(j, .slc ty q n g)])) w (g i t) noNames y := by
        intro O' hO _
        refine ⟨x0, 0, rfl, fun h => ?_, (Array.getElem?_eq_some_iff.1 e3).1, fun i hi t ht' => ?_⟩
        · have := (hO x0 h).2 (by rw [hv]; rfl)
          simp [owner] at this
        · have hlt : i * q + t < cs.size := by
            rw [e4]
            calc i * q + t < i * q + q := by omega
              _ = (i + 1) * q := by rw [Nat.add_mul, Nat.one_mul]
              _ ≤ cap * q := Nat.mul_le_mul_right _ (by omega)
          exact ⟨cs[i * q + t], by simp [World.cell?, e3, Array.getElem?_eq_getElem hlt], e5 i hi t ht' _ (Array.getElem?_eq_getElem hlt)⟩
      refine ⟨_, w, .inl c5, Fr.refl _ _, fun y hy => by simp [owner] at hy, fun O' hO1 hO => ?_, fun O' hO => ?_⟩
      · refine ⟨some ⟨x0, 0, none⟩, cap, hv, e2, (fun h => by cases h), (fun h => by cases h), fun hn => ?_⟩
        obtain ⟨y, off, h1, h2, h3, h4⟩ := hrow O' hO hn
        refine ⟨y, off, h1, h2, h3, fun i hi t ht' => ?_⟩
        obtain ⟨z, h5, h6⟩ := h4 i hi t ht'
        exact ⟨z, h5, Rel.mono (Nat.le_refl _) (fun _ _ _ => rfl) (fun x h => .inl (hO1 x h)) _ _ _ _ (fun _ _ h => h) h6⟩
      · exact cut_rel (hs := hs) (fun h => by cases h) (hrow O' hO) (fun y h => (hO y h).1) h0 h1 h2 c1 c2 fun h => c4 (htt h)
  · have hg : Good P o regs bs nx (.s (.c (.ro (b - a).toNat q tight fun i t => g (a.toNat + i) t))) [(j, .fsl q n g)] [] [] nx := by
      refine good_pure (sub_one hb) fun F hs ρ w hr hw => ?_
      obtain ⟨e0, _⟩ := hr x hm _ hx
      obtain ⟨v', hv', hbr⟩ := hw.blk j (.fsl q n g) (by simp [look])
      rw [e0] at hv'; cases hv'
      obtain ⟨A, cap, e1, e2, e3, e4, e5⟩ := hbr
      obtain ⟨c, c1, c2, c3, c4, c5⟩ := run F hs ρ w _ A cap hr e1 e2
      exact ⟨_, c5, cut_rel (hs := hs) e4 e5 (fun _ h => h) h0 h1 h2 c1 c2 fun h => c4 (htt h)⟩
    exact ⟨by simpa using hg.sub, fun i c h => ⟨c, h⟩, fun i c h => .inl ⟨c, h⟩, Nat.le_refl _, fun F hs ρ w hr hw hf => by simpa [fzL] using hg.run F hs ρ w (by simpa using hr) (by simpa using hw) hf⟩
end
end Go.Eng
namespace Go.Eng
open Go
section
variable {P : Program} {o : Oper} {regs : List RV} {bs : List (Nat × Blk)} {nx : Nat} {rv : RV} {rd : List (Nat × Blk)}
variable {F : Nat → Prop} {hs : Names} {B : Mem} {w w' : World} {v : Value}
/-- A block that is given up for a new name. -/
theorem post_move (hw : WRep F hs B w) (hf : ∀ j, nx ≤ j → j < nx + 1 → hs j = none) {j : Nat} {b0 b1 : Blk} {h h1 : Value} (hj : B j = some b0) (hh : hs j = some h)
    (hfr : Fr (fun x => owner b0 h = some x) w w') (ho : ∀ x, owner b1 h1 = some x → owner b0 h = some x ∨ w.heap.size ≤ x)
    (hb : ∀ (hs' : Names) (O' : Nat → Prop), (∀ j u, hs j = some u → hs' j = some u) → (∀ x, O' x → Osum F hs B x ∨ w.heap.size ≤ x) → BlkRel O' w' hs' b1 h1)
    (hrv : ∀ (hs' : Names) (O' : Nat → Prop), (∀ j u, hs j = some u → hs' j = some u) → hs' nx = some h1 → (∀ x, O' x → Osum F hs B x ∨ w.heap.size ≤ x) → RVRel O' w' rv hs' v) :
    Post F hs B w rv (fun i => if j = i then some .gone else if nx = i then some b1 else B i) nx (nx + 1) v w' := by
  have hjn : ¬ nx = j := by intro e; rw [← e, hf nx (Nat.le_refl _) (Nat.lt_succ_self _)] at hh; cases hh
  have hext : ∀ j u, hs j = some u → (fun j => if nx = j then some h1 else hs j) j = some u := by
    intro i u hi
    by_cases e : nx = i
    · subst e; rw [hf nx (Nat.le_refl _) (Nat.lt_succ_self _)] at hi; cases hi
    · simp [e, hi]
  have hown : ∀ x, own (fun j => if nx = j then some h1 else hs j) (fun i => if j = i then some .gone else if nx = i then some b1 else B i) x → own hs B x ∨ w.heap.size ≤ x := by
    rintro x ⟨i, c, u, hc, hu, hx⟩
    by_cases e : j = i
    · subst e; simp at hc; subst hc; simp [owner] at hx
    · by_cases e2 : nx = i
      · subst e2; simp [e] at hc hu; subst hc; subst hu
        rcases ho x hx with h2 | h2
        · exact .inl ⟨j, b0, h, hj, hh, h2⟩
        · exact .inr h2
      · simp [e, e2] at hc hu
        exact .inl ⟨i, c, u, hc, hu, hx⟩
  have hO : ∀ x, Osum F (fun j => if nx = j then some h1 else hs j) (fun i => if j = i then some .gone else if nx = i then some b1 else B i) x → Osum F hs B x ∨ w.heap.size ≤ x := by
    rintro x (hx | hx)
    · exact .inl (.inl hx)
    · exact (hown x hx).imp .inr id
  have hjO : ∀ x, owner b0 h = some x → Osum F hs B x := fun x hx => .inr ⟨j, b0, h, hj, hh, hx⟩
  refine ⟨fun j => if nx = j then some h1 else hs j, hrv _ _ hext (by simp) hO, ⟨?_, ?_, ?_, ?_⟩, hext, fun i hi => ?_, hfr.mono (fun x _ hx => ⟨j, b0, h, hj, hh, hx⟩), hown⟩
  · intro i c hc
    by_cases e : j = i
    · subst e; simp at hc; subst hc
      exact ⟨h, by simp [hjn, hh], trivial⟩
    · by_cases e2 : nx = i
      · subst e2; simp [e] at hc; subst hc
        exact ⟨h1, by simp, hb _ _ hext hO⟩
      · simp [e, e2] at hc
        obtain ⟨u, hu, hr⟩ := hw.blk i c hc
        refine ⟨u, by simp [e2, hu], BlkRel.mono hfr.size (fun x hx hn => hfr.block x hx fun h' => hn (hjO x h')) hO hext (fun x hx => ?_) hr⟩
        exact hfr.block x (own_lt hw ⟨i, c, u, hc, hu, hx⟩) fun h' => e (hw.sep j i b0 c h u x hj hc hh hu h' hx)
  · have hnew : ∀ i bi hi x, ¬ j = i → ¬ nx = i → B i = some bi → hs i = some hi → owner bi hi = some x → owner b1 h1 = some x → False := by
      intro i bi hi x e e2 hbi hhi hoi ho1
      rcases ho x ho1 with h2 | h2
      · exact e (hw.sep j i b0 bi h hi x hj hbi hh hhi h2 hoi)
      · have := own_lt hw ⟨i, bi, hi, hbi, hhi, hoi⟩; omega
    intro i i' bi bj hi hi' x hbi hbj hhi hhj hoi hoj
    by_cases ei : j = i
    · subst ei; simp at hbi; subst hbi; simp [owner] at hoi
    · by_cases ej : j = i'
      · subst ej; simp at hbj; subst hbj; simp [owner] at hoj
      · by_cases ni : nx = i
        · by_cases nj : nx = i'
          · rw [← ni, ← nj]
          · subst ni; simp [ei] at hbi hhi; subst hbi; subst hhi
            simp [ej, nj] at hbj hhj
            exact (hnew i' bj hi' x ej nj hbj hhj hoj hoi).elim
        · simp [ei, ni] at hbi hhi
          by_cases nj : nx = i'
          · subst nj; simp [ej] at hbj hhj; subst hbj; subst hhj
            exact (hnew i bi hi x ei ni hbi hhi hoi hoj).elim
          · simp [ej, nj] at hbj hhj
            exact hw.sep i i' bi bj hi hi' x hbi hbj hhi hhj hoi hoj
  · exact fun x hx => Nat.lt_of_lt_of_le (hw.lt x hx) hfr.size
  · intro x hx h'
    rcases hown x h' with h' | h'
    · exact hw.apart x hx h'
    · have := hw.lt x hx; omega
  · have e : ¬ nx = i := by omega
    simp only [e, if_false]
theorem good_upd' {j : Nat} {b0 b1 : Blk} (hb : look bs j = some b0) (hsub : Sub (look rd) (look bs))
    (hrun : ∀ (F : Nat → Prop) (hs : Names) (ρ : Operand → Value) (w : World) (h : Value),
      (∀ x ∈ o.op.operands, ∀ v, Opd regs x v → RVRel (Osum F hs (look ([(j, b0)] ++ rd))) w v hs (ρ x)) → WRep F hs (look ([(j, b0)] ++ rd)) w → hs j = some h → BlkRel (Osum F hs (look ([(j, b0)] ++ rd))) w hs b0 h →
      ∃ v w', ((execOp ρ o).run P w = .ok (.value v) w') ∧ Fr (fun x => owner b0 h = some x) w w' ∧ (∀ x, owner b1 h = some x → owner b0 h = some x) ∧
        (∀ O' : Nat → Prop, (∀ x, O' x → Osum F hs (look ([(j, b0)] ++ rd)) x) → BlkRel O' w' hs b1 h) ∧
        (∀ O' : Nat → Prop, RVRel O' w' rv hs v)) :
    Good P o regs bs nx rv rd [(j, b0)] [(j, b1)] nx where
  sub := fun i c h => by
    simp only [List.singleton_append, look] at h
    split at h
    · rename_i e; subst e; cases h; exact hb
    · exact hsub i c h
  dom := fun i c h => by
    simp only [List.singleton_append, look] at h ⊢
    split
    · exact ⟨b1, rfl⟩
    · rename_i e; rw [if_neg e] at h; exact ⟨c, h⟩
  new := fun i c h => by
    simp only [List.singleton_append, look] at h ⊢
    split at h
    · rename_i e; exact .inl ⟨b0, by simp [e]⟩
    · rename_i e; exact .inl ⟨c, by simp [e, h]⟩
  le := Nat.le_refl _
  run := fun F hs ρ w hx hw hf => by
    have hj : look ([(j, b0)] ++ rd) j = some b0 := by simp [look]
    obtain ⟨h, hh, hr⟩ := hw.blk j b0 hj
    obtain ⟨v, w', h1, h2, h3, h4, h5⟩ := hrun F hs ρ w h hx hw hh hr
    have e : look ([(j, b1)] ++ rd) = fun i => if j = i then some b1 else look ([(j, b0)] ++ rd) i := by
      funext i; simp only [List.singleton_append, look]; split <;> rfl
    have := post_upd (rv := rv) (nx := nx) (v := v) hw (j := j) (b0 := b0) (b1 := b1) hj hh h2 h3 (fun O' h _ => h4 O' h) (fun O' _ => h5 O')
    rw [e, h1]
    exact this
theorem owner_slc (ty ty' : TypeId) (q q' n n' : Nat) (g g' : Nat → Nat → Cell) (h : Value) : owner (.slc ty q n g) h = owner (.slc ty' q' n' g') h := by
  cases h with
  | slice a _ _ => cases a <;> rfl
  | _ => rfl
theorem run_copy_all {t s e : TypeId} {inf : TypeInfo} (ht : P.underlying t = some (.slice e)) (hi : P.info? e = some inf) (ty : TypeId) (w : World) (g n cap : Nat) (cur : Array Value) (et : TypeId) (hg : w.heap[g]? = some (.cells cur et (0, 0)))
    (A : Option Addr) (cap' : Nat) (xs : List Value) (hl : xs.length = n * inf.size) (hA : 0 < n → ∃ ad, A = some ad ∧ ∀ (j : Nat) x, xs[j]? = some x → w.cell? (ad.add j) = some x) (h1 : ∀ x ∈ xs, x.oneCell' = true) (hfit : n * inf.size ≤ cur.size) :
    (Builtin.copy_ #[t, s] ty #[.slice (some ⟨g, 0, none⟩) n cap, .slice A n cap']).run P w = .ok (.int .i64 n) (w.setRow g (cur.toList.take (0 + 0) ++ xs ++ cur.toList.drop (0 + 0 + xs.length)).toArray) := by
  have hfc : (Builtin.firstCells inf.size n (.slice A n cap')).run P w = .ok xs.toArray w := by
    rcases Nat.eq_zero_or_pos n with h0 | h0
    · subst h0
      have : xs = [] := List.eq_nil_of_length_eq_zero (by simpa using hl)
      subst this
      cases A <;> simp [Builtin.firstCells, loadCells, loadCellsFrom]
    · obtain ⟨ad, rfl, hc⟩ := hA h0
      exact run_firstCells_some w inf.size n ad n cap' xs hl hc
  have hst := run_storeCells_at P g 0 et xs 0 cur w hg (by omega) h1
  have hmin : Nat.min n n = n := Nat.min_self n
  simp only [Builtin.copy_, Sem.run_bind]
  simp [run_underlying ht, Builtin.lenOf, hmin, run_sizeOf hi, hfc, hst, goInt]
theorem good_copy {c : Call} {t s e ty : TypeId} {j q n : Nat} {g g2 : Nat → Nat → Cell} {x : RV} {inf : TypeInfo} (ho : o.op = .call c) (hc : c.callee = .builtin .copy) (hl : [RV.s (.c (.osl j)), x].length = c.args.toList.length)
    (hv : ∀ (i : Nat) y u, c.args.toList[i]? = some y → [RV.s (.c (.osl j)), x][i]? = some u → Opd regs y u) (ht : c.argTypes.toList = [t, s]) (hu : P.underlying t = some (.slice e)) (hi : P.info? e = some inf) (hq : q = inf.size)
    (hb : look bs j = some (.slc ty q n g)) (hsub : Sub (look rd) (look bs))
    (hread : ∀ F hs (B : Mem) w u, Sub (look rd) B → WRep F hs B w → RVRel (Osum F hs B) w x hs u → Reads (Osum F hs B) w n q g2 u) :
    Good P o regs bs nx (.s (.c (.v (.int .i64 n)))) rd [(j, .slc ty q n g)] [(j, .slc ty q n g2)] nx := by
  obtain ⟨y, z, hx, hyv, hzv⟩ := opsK_two hl hv
  refine good_upd' hb hsub fun F hs ρ w h hr hw hh hbr => ?_
  obtain ⟨e0, _⟩ := hr y (call_operands ho (i := 0) (by rw [hx]; rfl)) _ hyv
  have hrz := hr z (call_operands ho (i := 1) (by rw [hx]; rfl)) _ hzv
  rw [hh] at e0
  simp only [Option.some.injEq] at e0
  subst e0
  have hsub2 : Sub (look rd) (look ([(j, .slc ty q n g)] ++ rd)) := by
    intro i b hib
    simp only [List.singleton_append, look]
    split
    · rename_i e1; subst e1
      have := hsub j b hib
      rw [hb] at this; exact this
    · exact hib
  obtain ⟨A, cap', xs, ez, hn', hnil, hlen, hrel, hone, hcells⟩ := (hread F hs _ w _ hsub2 hw hrz).list
  have hopq : ∀ w' : World, Sem.run P (execOp ρ o) w = (Sem.run P (Builtin.copy_ #[t, s] o.type #[ρ y, ρ z]) w).andThen fun a w' => .ok (.value a) w' := by
    intro _
    rw [run_builtin hc ho, args_two hx, types_two ht]
    simp only [builtin, List.map_toArray, List.map_cons, List.map_nil]
    rw [Sem.run_bind]
    rfl
  rcases hbr with ⟨hnl, hn0⟩ | ⟨x0, cap, cs, hv0, e2, e2', e3, e4, e5⟩
  · have hx0 : xs = [] := List.eq_nil_of_length_eq_zero (by rw [hlen, hn0]; simp)
    refine ⟨.int .i64 n, w, ?_, Fr.refl _ _, fun y hy => by rw [owner_slc ty ty q q n n g g2]; exact hy, fun O' hO => .inl ⟨hnl, hn0⟩, fun O' => ⟨rfl, rfl⟩⟩
    rw [hopq w, hnl, ez, hn0]
    have : (Builtin.copy_ #[t, s] o.type #[.slice none 0 0, .slice A 0 cap']).run P w = .ok (.int .i64 ((0 : Nat) : Int)) w := by
      simp only [Builtin.copy_, Sem.run_bind]
      cases A <;> simp [run_underlying hu, Builtin.lenOf, run_sizeOf hi, Builtin.firstCells, loadCells, loadCellsFrom, goInt]
    rw [this]
    rfl
  · have hfit : n * inf.size ≤ cs.size := by rw [e4, hq]; exact Nat.mul_le_mul_right _ e2
    have hrun := run_copy_all (P := P) (s := s) hu hi o.type w x0 n cap cs ty e3 A cap' xs (by rw [hlen, hq]) (fun h => by obtain ⟨b, off, h1, h2⟩ := hcells h; exact ⟨_, h1, h2⟩) hone hfit
    have hle : 0 + xs.length ≤ cs.size := by rw [hlen, hq]; omega
    refine ⟨.int .i64 n, _, by rw [hopq w, hv0, ez, hrun]; rfl, (fr_setRow w x0 _).mono fun y _ hy => by subst hy; rw [hv0]; rfl, fun y hy => by rw [owner_slc ty ty q q n n g g2]; exact hy, fun O' hO => ?_, fun O' => ⟨rfl, rfl⟩⟩
    refine .inr ⟨x0, cap, _, hv0, e2, e2', setRow_heap w x0 cs _ ty _ e3, ?_, fun p hp t' ht' u hu' => ?_⟩
    · rw [splice_size cs xs 0 hle, e4]
    · have hlt : p * q + t' < xs.length := by
        rw [hlen]
        calc p * q + t' < p * q + q := by omega
          _ = (p + 1) * q := by rw [Nat.add_mul, Nat.one_mul]
          _ ≤ n * q := Nat.mul_le_mul_right _ hp
      rw [splice_get cs xs 0 hle, if_pos (by omega)] at hu'
      have h6 := hrel p hp t' ht' u (by simpa using hu')
      exact Rel.mono (by simp) (fun y hy hny => setRow_other w x0 y _ fun e => hny (by subst e; exact .inr ⟨j, .slc ty q n g, _, by simp [look], hh, by rw [hv0]; rfl⟩)) (fun y hy => .inl (hO y hy)) _ _ _ _ (fun _ _ h => h) h6
theorem run_copy_at {t s e : TypeId} {inf : TypeInfo} (ht : P.underlying t = some (.slice e)) (hi : P.info? e = some inf) (ty : TypeId) (w : World) (g off n cap : Nat) (cur : Array Value) (et : TypeId) (hg : w.heap[g]? = some (.cells cur et (0, 0)))
    (A : Option Addr) (cap' : Nat) (xs : List Value) (hl : xs.length = n * inf.size) (hA : 0 < n → ∃ ad, A = some ad ∧ ∀ (j : Nat) x, xs[j]? = some x → w.cell? (ad.add j) = some x) (h1 : ∀ x ∈ xs, x.oneCell' = true) (hfit : off + n * inf.size ≤ cur.size) :
    (Builtin.copy_ #[t, s] ty #[.slice (some ⟨g, off, none⟩) n cap, .slice A n cap']).run P w = .ok (.int .i64 n) (w.setRow g (cur.toList.take (off + 0) ++ xs ++ cur.toList.drop (off + 0 + xs.length)).toArray) := by
  have hfc : (Builtin.firstCells inf.size n (.slice A n cap')).run P w = .ok xs.toArray w := by
    rcases Nat.eq_zero_or_pos n with h0 | h0
    · subst h0
      have : xs = [] := List.eq_nil_of_length_eq_zero (by simpa using hl)
      subst this
      cases A <;> simp [Builtin.firstCells, loadCells, loadCellsFrom]
    · obtain ⟨ad, rfl, hc⟩ := hA h0
      exact run_firstCells_some w inf.size n ad n cap' xs hl hc
  have hst := run_storeCells_at P g off et xs 0 cur w hg (by omega) h1
  have hmin : Nat.min n n = n := Nat.min_self n
  simp only [Builtin.copy_, Sem.run_bind]
  simp [run_underlying ht, Builtin.lenOf, hmin, run_sizeOf hi, hfc, hst, goInt]
/-- A part of a row laid over a part of another one. -/
theorem good_copy_row {c : Call} {t s e ty ty2 : TypeId} {j off j2 off2 n q : Nat} {l l2 r r' : List Cell} {inf : TypeInfo} (ho : o.op = .call c) (hc : c.callee = .builtin .copy) (hl : [RV.s (.c (.psl j off n q)), RV.s (.c (.psl j2 off2 n q))].length = c.args.toList.length)
    (hv : ∀ (i : Nat) y u, c.args.toList[i]? = some y → [RV.s (.c (.psl j off n q)), RV.s (.c (.psl j2 off2 n q))][i]? = some u → Opd regs y u) (ht : c.argTypes.toList = [t, s]) (hu : P.underlying t = some (.slice e)) (hi : P.info? e = some inf) (hq : q = inf.size)
    (hb : look bs j = some (.row ty l)) (hb2 : look bs j2 = some (.row ty2 l2)) (hne : j ≠ j2) (hr1 : r.length = n * q) (hr3 : ∀ m, m < n * q → l2[off2 + m]? = r[m]?)
    (hlen : r'.length = l.length) (hle : off + r.length ≤ l.length) (hr' : ∀ m, r'[m]? = if off ≤ m ∧ m < off + r.length then r[m - off]? else l[m]?) :
    Good P o regs bs nx (.s (.c (.v (.int .i64 n)))) [(j2, .row ty2 l2)] [(j, .row ty l)] [(j, .row ty r')] nx := by
  obtain ⟨y, z, hx, hyv, hzv⟩ := opsK_two hl hv
  refine good_upd' hb (sub_one hb2) fun F hs ρ w h hr hw hh hbr => ?_
  obtain ⟨b, cap, e1, e2, e3⟩ := hr y (call_operands ho (i := 0) (by rw [hx]; rfl)) _ hyv
  obtain ⟨b2, cap2, f1, f2, f3⟩ := hr z (call_operands ho (i := 1) (by rw [hx]; rfl)) _ hzv
  rw [hh] at e1
  simp only [Option.some.injEq] at e1
  subst e1
  obtain ⟨g, cs, e5, e6, e7, e8⟩ := hbr
  cases e5
  have hj2 : look ([(j, Blk.row ty l)] ++ [(j2, .row ty2 l2)]) j2 = some (.row ty2 l2) := by
    simp [look, hne]
  obtain ⟨x2, cs2, g1, g2, g3, g4⟩ := row_of hw hj2
  rw [g1] at f1
  simp only [Option.some.injEq, Value.pointer.injEq, Addr.mk.injEq, and_true] at f1
  subst f1
  -- the cells that are moved
  obtain ⟨xs, hxs⟩ : ∃ xs : List Value, xs = (cs2.toList.drop off2).take (n * q) := ⟨_, rfl⟩
  have hl2 : ∀ m, m < n * q → off2 + m < l2.length := fun m hm => by
    have h1 := hr3 m hm
    rw [List.getElem?_eq_getElem (l := r) (i := m) (by omega)] at h1
    exact (List.getElem?_eq_some_iff.1 h1).1
  have hxsl : xs.length = n * q := by
    rcases Nat.eq_zero_or_pos (n * q) with h0 | h0
    · rw [hxs, h0]; simp
    · have := hl2 (n * q - 1) (by omega)
      rw [hxs, List.length_take, List.length_drop, Array.length_toList, g3]; omega
  have hxm : ∀ m, m < n * q → xs[m]? = cs2[off2 + m]? := fun m hm => by
    rw [hxs, List.getElem?_take_of_lt hm, List.getElem?_drop, Array.getElem?_toList]
  have hrel : ∀ m c u, r[m]? = some c → xs[m]? = some u → w.cell? ⟨x2, off2 + m, none⟩ = some u ∧ Rel (Osum F hs (look ([(j, Blk.row ty l)] ++ [(j2, .row ty2 l2)]))) w c hs u := fun m c u hc hu => by
    have hm : m < n * q := by rw [← hr1]; exact (List.getElem?_eq_some_iff.1 hc).1
    obtain ⟨u', h1, h2, h3⟩ := g4 (off2 + m) c (by rw [hr3 m hm]; exact hc)
    rw [hxm m hm, h1] at hu
    cases hu
    exact ⟨h2, h3⟩
  have hat : ∀ m u, xs[m]? = some u → ∃ c, r[m]? = some c := fun m u hu => by
    have : m < xs.length := (List.getElem?_eq_some_iff.1 hu).1
    exact ⟨_, List.getElem?_eq_getElem (by omega)⟩
  have hone : ∀ u ∈ xs, u.oneCell' = true := fun u hu => by
    obtain ⟨m, hm, rfl⟩ := List.getElem_of_mem hu
    obtain ⟨c, hc⟩ := hat m _ (List.getElem?_eq_getElem hm)
    exact rel_one (hrel m c _ hc (List.getElem?_eq_getElem hm)).2
  have hle' : off + xs.length ≤ cs.size := by omega
  have hrun := run_copy_at (P := P) (s := s) hu hi o.type w b off n cap cs ty e6 (some ⟨x2, off2, none⟩) cap2 xs (by rw [hxsl, hq])
    (fun _ => ⟨_, rfl, fun m u hm => by
      obtain ⟨c, hc⟩ := hat m u hm
      rw [addr_add]; exact (hrel m c u hc hm).1⟩) hone (by rw [← hq, ← hxsl]; exact hle')
  have hopq : Sem.run P (execOp ρ o) w = (Sem.run P (Builtin.copy_ #[t, s] o.type #[ρ y, ρ z]) w).andThen fun a w' => .ok (.value a) w' := by
    rw [run_builtin hc ho, args_two hx, types_two ht]
    simp only [builtin, List.map_toArray, List.map_cons, List.map_nil]
    rw [Sem.run_bind]
    rfl
  refine ⟨.int .i64 n, _, by rw [hopq, e3, f3, hrun]; rfl, (fr_setRow w b _).mono fun y _ hy => by subst hy; rfl, fun y hy => hy, fun O' hO => ?_, fun O' => ⟨rfl, rfl⟩⟩
  refine ⟨b, _, rfl, setRow_heap w b cs _ ty _ e6, ?_, fun m c u hc hu => ?_⟩
  · rw [splice_size cs _ off hle', e7, hlen]
  · rw [splice_get cs _ off hle'] at hu
    rw [hr' m] at hc
    have hmono : ∀ (c : Cell) (u : Value), Rel (Osum F hs (look ([(j, Blk.row ty l)] ++ [(j2, .row ty2 l2)]))) w c hs u → Rel O' (w.setRow b (cs.toList.take (off + 0) ++ xs ++ cs.toList.drop (off + 0 + xs.length)).toArray) c hs u :=
      fun c u hcu => Rel.mono (by simp) (fun y hy hny => setRow_other w b y _ fun e => hny (by subst e; exact .inr ⟨j, .row ty l, _, by simp [look], hh, rfl⟩)) (fun y hy => .inl (hO y hy)) _ _ _ _ (fun _ _ h => h) hcu
    by_cases hin : off ≤ m ∧ m < off + r.length
    · rw [if_pos hin] at hc
      rw [if_pos (by omega)] at hu
      exact hmono c u (hrel _ c u hc hu).2
    · rw [if_neg hin] at hc
      rw [if_neg (by omega)] at hu
      exact hmono c u (e8 m c u hc hu)
/-- An array in a row, as a slice. -/
theorem good_slArr {t e : TypeId} {x : Operand} {lo : Option Operand} {inf : TypeInfo} {len j off : Nat} {a : Nat} (ho : o.op = .slice t x lo none none) (ht : P.underlying t = some (.array len e)) (hx : Opd regs x (.s (.c (.ptr j off)))) (hi : P.info? e = some inf)
    (hlo : (lo = none ∧ a = 0) ∨ ∃ y q, lo = some y ∧ Opd regs y (.s (.c (.v (.int q (a : Int)))))) (ha : a < len) :
    Good P o regs bs nx (.s (.c (.psl j (off + a * inf.size) (len - a) inf.size))) [] [] [] nx := by
  refine good_pure (sub_nil _) fun F hs ρ w hr hw => ?_
  obtain ⟨b, e1, e2⟩ := hr x (by simp [ho, Op.operands]) _ hx
  have hrun : (Instr.sliceAt t (.pointer (some ⟨b, off, none⟩)) (lo.map ρ) none none).run P w = .ok (.slice (some ⟨b, off + a * inf.size, none⟩) (len - a) (len - a)) w := by
    rcases hlo with ⟨rfl, rfl⟩ | ⟨y, q, rfl, hy⟩
    · simp only [Instr.sliceAt, Option.map_none, Sem.run_bind, run_underlying ht, Result.andThen_ok, Instr.sureAddr, Sem.run_pure, Instr.sliceBounds, run_sizeOf hi]
      rw [if_neg (by omega)]
      simp [Addr.add]
    · have e3 := rel_v (hr y (by simp [ho, Op.operands]) _ hy)
      simp only [Instr.sliceAt, Option.map_some, e3, Sem.run_bind, run_underlying ht, Result.andThen_ok, Instr.sureAddr, Sem.run_pure, Instr.sliceBounds, run_sizeOf hi, run_sliceBound w q (a : Int) len _ (by omega) (by omega)]
      rw [if_neg (by simp; omega)]
      simp [Addr.add]
  refine ⟨_, by simp only [execOp, ho, e2, Option.map_none]; rw [Sem.run_bind, hrun]; rfl, b, len - a, e1, Nat.le_refl _, rfl⟩
theorem good_slArrHi {t e : TypeId} {x z : Operand} {inf : TypeInfo} {len j off : Nat} {b' : Nat} {q : IntKind} (ho : o.op = .slice t x none (some z) none) (ht : P.underlying t = some (.array len e)) (hx : Opd regs x (.s (.c (.ptr j off)))) (hi : P.info? e = some inf)
    (hz : Opd regs z (.s (.c (.v (.int q (b' : Int)))))) (h1 : 1 ≤ len) (hb : b' ≤ len) :
    Good P o regs bs nx (.s (.c (.psl j off b' inf.size))) [] [] [] nx := by
  refine good_pure (sub_nil _) fun F hs ρ w hr hw => ?_
  obtain ⟨b, e1, e2⟩ := hr x (by simp [ho, Op.operands]) _ hx
  have e3 := rel_v (hr z (by simp [ho, Op.operands]) _ hz)
  have hrun : (Instr.sliceAt t (.pointer (some ⟨b, off, none⟩)) none (some (.int q (b' : Int))) none).run P w = .ok (.slice (some ⟨b, off, none⟩) b' len) w := by
    simp only [Instr.sliceAt, Sem.run_bind, run_underlying ht, Result.andThen_ok, Instr.sureAddr, Sem.run_pure, Instr.sliceBounds, run_sizeOf hi, run_sliceBound w q (b' : Int) len _ (by omega) (by omega)]
    rw [if_neg (by omega)]
    simp [Addr.add]
  refine ⟨_, by simp only [execOp, ho, e2, e3, Option.map_none, Option.map_some]; rw [Sem.run_bind, hrun]; rfl, b, len, e1, hb, rfl⟩
/-- What 'append' leaves, as the machine's slice: its value owns the elements, old and new. -/
theorem owns_blk {O' : Nat → Prop} {w' : World} {hs' : Names} {e : TypeId} {q n base : Nat} {v : Value} {zs : List Value} {g : Nat → Nat → Cell} (h : w'.ownsRow base e q v n zs)
    (hr : ∀ i, i < n → ∀ t, t < q → ∀ u, zs[i * q + t]? = some u → Rel O' w' (g i t) noNames u) : BlkRel O' w' hs' (.slc e q n g) v := by
  rcases h.2 with ⟨rfl, rfl⟩ | ⟨x, cap, cur, rfl, _, hg, hn, hm, hcs, htake⟩
  · exact .inl ⟨rfl, rfl⟩
  · refine .inr ⟨x, cap, cur, rfl, hn, hm, hg, hcs, fun i hi t ht u hu => hr i hi t ht u ?_⟩
    have hlt : i * q + t < n * q := by
      calc i * q + t < i * q + q := by omega
        _ = (i + 1) * q := by rw [Nat.add_mul, Nat.one_mul]
        _ ≤ n * q := Nat.mul_le_mul_right _ (by omega)
    rw [← htake, List.getElem?_take, if_pos hlt]
    simpa using hu
theorem catG_rel {O : Nat → Prop} {w : World} {n m q : Nat} {g g2 : Nat → Nat → Cell} {xs news : List Value} (hx : xs.length = n * q) (h1 : ∀ i, i < n → ∀ t, t < q → ∀ u, xs[i * q + t]? = some u → Rel O w (g i t) noNames u)
    (h2 : ∀ i, i < m → ∀ t, t < q → ∀ u, news[i * q + t]? = some u → Rel O w (g2 i t) noNames u) :
    ∀ i, i < n + m → ∀ t, t < q → ∀ u, (xs ++ news)[i * q + t]? = some u → Rel O w (catG n g g2 i t) noNames u := by
  intro i hi t ht u hu
  unfold catG
  by_cases hin : i < n
  · rw [if_pos hin]
    have hlt : i * q + t < xs.length := by
      rw [hx]
      calc i * q + t < i * q + q := by omega
        _ = (i + 1) * q := by rw [Nat.add_mul, Nat.one_mul]
        _ ≤ n * q := Nat.mul_le_mul_right _ hin
    rw [List.getElem?_append_left hlt] at hu
    exact h1 i hin t ht u hu
  · rw [if_neg hin]
    have hge : xs.length ≤ i * q + t := by
      rw [hx]
      calc n * q ≤ i * q := Nat.mul_le_mul_right _ (by omega)
        _ ≤ i * q + t := by omega
    rw [List.getElem?_append_right hge] at hu
    refine h2 (i - n) (by omega) t ht u ?_
    rw [← hu, hx, Nat.sub_mul]
    congr 1
    have : n * q ≤ i * q := Nat.mul_le_mul_right _ (by omega)
    omega
/-- append onto what owns its elements, or nothing: the run. -/
theorem run_append_any {t e : TypeId} {inf : TypeInfo} {z : Value} (ht : P.underlying t = some (.slice e)) (hi : P.info? e = some inf) (hz : inf.zero = some z) (hzs : z.cells.size = inf.size) (hp : 0 < inf.size) (ty : TypeId) (w : World)
    (v : Value) (n : Nat) (xs : List Value) (hown : w.ownsRow 0 e inf.size v n xs) (A : Option Addr) (m cap' : Nat) (news : List Value) (hA : A = none → cap' = 0) (hm : m ≤ cap') (hl : news.length = m * inf.size)
    (hc : 0 < m → ∃ ad, A = some ad ∧ ∀ (j : Nat) x, news[j]? = some x → w.cell? (ad.add j) = some x) (h1 : ∀ x ∈ news, x.oneCell' = true) (h63 : n + m ≤ maxLen) (hb : (n + m) * inf.bytes ≤ 140737488355328) :
    ∃ v' w', (Builtin.append_ #[t, t] ty #[v, .slice A m cap']).run P w = .ok v' w' ∧ w'.ownsRow 0 e inf.size v' (n + m) (xs ++ news) ∧ w.grownBy w' v.ownBlock ∧ (v'.ownBlock = v.ownBlock ∨ v'.ownBlock = some w.heap.size) := by
  cases A with
  | none =>
    have hc0 := hA rfl
    subst hc0
    have hm0 : m = 0 := by omega
    subst hm0
    have hn : news = [] := List.eq_nil_of_length_eq_zero (by simpa using hl)
    subst hn
    exact ⟨v, w, run_append_owned_none w 0 t ty e inf inf.size ht hi v n xs hown, by simpa using hown, ⟨rfl, rfl, rfl, Nat.le_refl _, fun _ _ _ => rfl⟩, .inl rfl⟩
  | some ad =>
    have hnews : ∀ (j : Nat) u, news[j]? = some u → w.cell? (ad.add j) = some u := by
      rcases Nat.eq_zero_or_pos m with h0 | h0
      · subst h0
        have hn : news = [] := List.eq_nil_of_length_eq_zero (by simpa using hl)
        subst hn
        intro j u hu; simp at hu
      · obtain ⟨ad', h2, h3⟩ := hc h0
        cases h2
        exact h3
    obtain ⟨v', w', h2, h3, h4, _, h5⟩ := run_append_own_at (P := P) w 0 t ty e inf z inf.size inf.bytes ht hi hz rfl rfl hzs hp v n xs hown ad m cap' news hl hnews h1 h63 hb (Nat.zero_le _)
    exact ⟨v', w', h2, h3, h4, h5⟩
theorem slc_owns {O : Nat → Prop} {w : World} {hs : Names} {ty : TypeId} {q n : Nat} {g : Nat → Nat → Cell} {h : Value} (hb : BlkRel O w hs (.slc ty q n g) h) :
    ∃ xs, w.ownsRow 0 ty q h n xs ∧ ∀ i, i < n → ∀ t, t < q → ∀ u, xs[i * q + t]? = some u → Rel O w (g i t) noNames u := by
  rcases hb with ⟨rfl, rfl⟩ | ⟨x, cap, cs, rfl, h2, h3, h4, h5, h6⟩
  · exact ⟨[], World.ownsRow_nil w 0 ty q, fun i hi => by omega⟩
  · refine ⟨cs.toList.take (n * q), ⟨?_, .inr ⟨x, cap, cs, rfl, Nat.zero_le _, h4, h2, h3, h5, rfl⟩⟩, fun i hi t ht u hu => h6 i hi t ht u ?_⟩
    · rw [List.length_take, Array.length_toList, h5]
      exact Nat.min_eq_left (Nat.mul_le_mul_right _ h2)
    · rw [List.getElem?_take] at hu
      split at hu
      · simpa using hu
      · cases hu
theorem ownBlock_owner {ty : TypeId} {q n : Nat} {g : Nat → Nat → Cell} (h : Value) : owner (.slc ty q n g) h = h.ownBlock := by
  cases h with
  | slice a _ _ => cases a <;> rfl
  | _ => rfl
theorem grown_fr {w w' : World} {row : Option Nat} (h : w.grownBy w' row) : Fr (fun x => row = some x) w w' :=
  ⟨h.os, h.tape, h.output, h.size, fun x hx hn => h.block x hx fun e => hn e.symm⟩
theorem builtin_append_run {c : Call} {t : TypeId} {y z : Operand} (ho : o.op = .call c) (hc : c.callee = .builtin .append) (hx : c.args.toList = [y, z]) (ht : c.argTypes.toList = [t, t]) (ρ : Operand → Value) (w : World) :
    (execOp ρ o).run P w = ((Builtin.append_ #[t, t] o.type #[ρ y, ρ z]).run P w).andThen fun a w' => .ok (.value a) w' := by
  rw [run_builtin hc ho, args_two hx, types_two ht]
  simp only [builtin, List.map_toArray, List.map_cons, List.map_nil]
  rw [Sem.run_bind]
  rfl
/-- append onto nil. -/
theorem good_append_nil {c : Call} {t e : TypeId} {m : Nat} {g2 : Nat → Nat → Cell} {x : RV} {inf : TypeInfo} {z : Value} (ho : o.op = .call c) (hc : c.callee = .builtin .append)
    (hl : [RV.s (.c (.v (.slice none 0 0))), x].length = c.args.toList.length) (hv : ∀ (i : Nat) y u, c.args.toList[i]? = some y → [RV.s (.c (.v (.slice none 0 0))), x][i]? = some u → Opd regs y u)
    (ht : c.argTypes.toList = [t, t]) (hu : P.underlying t = some (.slice e)) (hi : P.info? e = some inf) (hz : inf.zero = some z) (hzs : z.cells.size = inf.size) (hp : 0 < inf.size) (hsub : Sub (look rd) (look bs))
    (hread : ∀ F hs (B : Mem) w u, Sub (look rd) B → WRep F hs B w → RVRel (Osum F hs B) w x hs u → Reads (Osum F hs B) w m inf.size g2 u) (h63 : m ≤ maxLen) (hb : m * inf.bytes ≤ 140737488355328) :
    Good P o regs bs nx (.s (.c (.osl nx))) rd [] [(nx, .slc e inf.size m g2)] (nx + 1) := by
  obtain ⟨y, z', hx, hyv, hzv⟩ := opsK_two hl hv
  refine good_new hsub fun F hs ρ w hr hw => ?_
  have e1 := rel_v (hr y (call_operands ho (i := 0) (by rw [hx]; rfl)) _ hyv)
  have hrz := hr z' (call_operands ho (i := 1) (by rw [hx]; rfl)) _ hzv
  obtain ⟨A, cap', news, ez, hn', hnil, hlen, hrel, hone, hcells⟩ := (hread F hs _ w _ (fun _ _ h => h) hw hrz).list
  obtain ⟨v', w', h1, h2, h3, h4⟩ := run_append_any (P := P) hu hi hz hzs hp o.type w (.slice none 0 0) 0 [] (World.ownsRow_nil w 0 e inf.size) A m cap' news hnil hn' hlen
    (fun h => by obtain ⟨b, off, h1, h2⟩ := hcells h; exact ⟨_, h1, h2⟩) hone (by simpa using h63) (by simpa using hb)
  simp only [Nat.zero_add, List.nil_append] at h2
  have hfr : Fr (fun _ => False) w w' := (grown_fr h3).mono fun x _ hx => by simp [Value.ownBlock] at hx
  refine ⟨v', v', w', by rw [builtin_append_run ho hc hx ht, e1, ez, h1]; rfl, hfr, ?_, fun x hx => ?_, ?_⟩
  · intro hs' O' _ hO _
    refine owns_blk h2 fun i hi' t' ht' u hu' => ?_
    exact Rel.mono hfr.size (fun y hy _ => hfr.block y hy id) hO _ _ _ _ (fun _ _ h => h) (hrel i hi' t' ht' u hu')
  · rw [ownBlock_owner] at hx
    rcases h4 with h4 | h4
    · rw [h4] at hx; simp [Value.ownBlock] at hx
    · rw [h4] at hx; cases hx; exact Nat.le_refl _
  · intro hs' O' _ hn _
    refine ⟨hn, ?_⟩
    rcases h2.2 with ⟨h5, _⟩ | ⟨a, b, d, h5, _⟩ <;> exact ⟨_, _, _, h5⟩
/-- append onto a slice of one's own: the elder name is given up. -/
theorem good_append_own {c : Call} {t e : TypeId} {j n m : Nat} {g g2 : Nat → Nat → Cell} {x : RV} {inf : TypeInfo} {z : Value} (ho : o.op = .call c) (hc : c.callee = .builtin .append)
    (hl : [RV.s (.c (.osl j)), x].length = c.args.toList.length) (hv : ∀ (i : Nat) y u, c.args.toList[i]? = some y → [RV.s (.c (.osl j)), x][i]? = some u → Opd regs y u)
    (ht : c.argTypes.toList = [t, t]) (hu : P.underlying t = some (.slice e)) (hi : P.info? e = some inf) (hz : inf.zero = some z) (hzs : z.cells.size = inf.size) (hp : 0 < inf.size) (hsub : Sub (look rd) (look bs))
    (hbj : look bs j = some (.slc e inf.size n g)) (hjn : j < nx)
    (hread : ∀ F hs (B : Mem) w u, Sub (look rd) B → WRep F hs B w → RVRel (Osum F hs B) w x hs u → Reads (Osum F hs B) w m inf.size g2 u) (h63 : n + m ≤ maxLen) (hb : (n + m) * inf.bytes ≤ 140737488355328) :
    Good P o regs bs nx (.s (.c (.osl nx))) rd [(j, .slc e inf.size n g)] [(j, .gone), (nx, .slc e inf.size (n + m) (catG n g g2))] (nx + 1) where
  sub := fun i c h => by
    simp only [List.singleton_append, look] at h
    split at h
    · rename_i e; subst e; cases h; exact hbj
    · exact hsub i c h
  dom := fun i c h => by
    simp only [List.singleton_append, List.cons_append, List.nil_append, look] at h ⊢
    split
    · exact ⟨_, rfl⟩
    · rename_i e1; rw [if_neg e1] at h
      split
      · exact ⟨_, rfl⟩
      · exact ⟨c, h⟩
  new := fun i c h => by
    simp only [List.singleton_append, List.cons_append, List.nil_append, look] at h ⊢
    by_cases e1 : j = i
    · exact .inl ⟨_, by rw [if_pos e1]⟩
    · rw [if_neg e1] at h
      by_cases e2 : nx = i
      · exact .inr (by omega)
      · rw [if_neg e2] at h
        exact .inl ⟨c, by rw [if_neg e1]; exact h⟩
  le := by omega
  run := fun F hs ρ w hr hw hf => by
    obtain ⟨y, z', hx, hyv, hzv⟩ := opsK_two hl hv
    obtain ⟨e0, _⟩ := hr y (call_operands ho (i := 0) (by rw [hx]; rfl)) _ hyv
    have hrz := hr z' (call_operands ho (i := 1) (by rw [hx]; rfl)) _ hzv
    have hj : look ([(j, Blk.slc e inf.size n g)] ++ rd) j = some (.slc e inf.size n g) := by simp [look]
    obtain ⟨h, hh, hbr⟩ := hw.blk j _ hj
    rw [e0] at hh; cases hh
    have hsub2 : Sub (look rd) (look ([(j, .slc e inf.size n g)] ++ rd)) := by
      intro i b hib
      simp only [List.singleton_append, look]
      split
      · rename_i e1; subst e1
        have := hsub j b hib
        rw [hbj] at this; exact this
      · exact hib
    obtain ⟨A, cap', news, ez, hn', hnil, hlen, hrel, hone, hcells⟩ := (hread F hs _ w _ hsub2 hw hrz).list
    obtain ⟨xs, hown, hxr⟩ := slc_owns hbr
    obtain ⟨v', w', h1, h2, h3, h4⟩ := run_append_any (P := P) hu hi hz hzs hp o.type w (ρ y) n xs hown A m cap' news hnil hn' hlen
      (fun h => by obtain ⟨b, off, h1, h2⟩ := hcells h; exact ⟨_, h1, h2⟩) hone h63 hb
    have hfr : Fr (fun x => owner (.slc e inf.size n g) (ρ y) = some x) w w' := (grown_fr h3).mono fun x _ hx => by rw [ownBlock_owner]; exact hx
    have heq : look ([(j, Blk.gone), (nx, .slc e inf.size (n + m) (catG n g g2))] ++ rd) = fun i => if j = i then some .gone else if nx = i then some (.slc e inf.size (n + m) (catG n g g2)) else look ([(j, .slc e inf.size n g)] ++ rd) i := by
      funext i
      simp only [List.cons_append, List.nil_append, look]
      split
      · rfl
      · split
        · rfl
        · rename_i e1 _; simp [e1]
    rw [builtin_append_run ho hc hx ht, ez, h1, heq]
    refine post_move hw hf hj e0 hfr (h1 := v') (fun x hx => ?_) (fun hs' O' hext hO => ?_) (fun hs' O' _ hn _ => ?_)
    · rw [ownBlock_owner] at hx ⊢
      rcases h4 with h4 | h4
      · left; rw [← h4]; exact hx
      · right; rw [h4] at hx; cases hx; exact Nat.le_refl _
    · refine owns_blk h2 fun i hi' t' ht' u hu' => ?_
      have h6 := catG_rel (q := inf.size) hown.1 hxr hrel i hi' t' ht' u hu'
      refine Rel.mono hfr.size (fun y' hy hny => hfr.block y' hy fun h' => hny (.inr ⟨j, _, _, hj, e0, h'⟩)) hO _ _ _ _ (fun _ _ h => h) h6
    · refine ⟨hn, ?_⟩
      rcases h2.2 with ⟨h5, _⟩ | ⟨a, b, d, h5, _⟩ <;> exact ⟨_, _, _, h5⟩
/-- append onto a slice without room: a new one is made. -/
theorem good_append_tight {c : Call} {t e : TypeId} {n m : Nat} {g g2 : Nat → Nat → Cell} {x : RV} {inf : TypeInfo} {z : Value} (ho : o.op = .call c) (hc : c.callee = .builtin .append)
    (hl : [RV.s (.c (.ro n inf.size true g)), x].length = c.args.toList.length) (hv : ∀ (i : Nat) y u, c.args.toList[i]? = some y → [RV.s (.c (.ro n inf.size true g)), x][i]? = some u → Opd regs y u)
    (ht : c.argTypes.toList = [t, t]) (hu : P.underlying t = some (.slice e)) (hi : P.info? e = some inf) (hz : inf.zero = some z) (hzs : z.cells.size = inf.size) (hp : 0 < inf.size) (hsub : Sub (look rd) (look bs)) (hm : 0 < m)
    (hread : ∀ F hs (B : Mem) w u, Sub (look rd) B → WRep F hs B w → RVRel (Osum F hs B) w x hs u → Reads (Osum F hs B) w m inf.size g2 u) (h63 : n + m ≤ maxLen) (hb : (n + m) * inf.bytes ≤ 140737488355328) :
    Good P o regs bs nx (.s (.c (.osl nx))) rd [] [(nx, .slc e inf.size (n + m) (catG n g g2))] (nx + 1) := by
  obtain ⟨y, z', hx, hyv, hzv⟩ := opsK_two hl hv
  refine good_new hsub fun F hs ρ w hr hw => ?_
  have hry := hr y (call_operands ho (i := 0) (by rw [hx]; rfl)) _ hyv
  have hrz := hr z' (call_operands ho (i := 1) (by rw [hx]; rfl)) _ hzv
  obtain ⟨A, cap', news, ez, hn', hnil, hlen, hrel, hone, hcells⟩ := (hread F hs _ w _ (fun _ _ h => h) hw hrz).list
  obtain ⟨ad, hA, hcs⟩ : ∃ ad, A = some ad ∧ ∀ (j : Nat) x, news[j]? = some x → w.cell? (ad.add j) = some x := by
    obtain ⟨b, off, h1, h2⟩ := hcells hm; exact ⟨_, h1, h2⟩
  subst hA
  have htight : ∃ B, ρ y = .slice B n n ∧ (B = none → n = 0) := by
    obtain ⟨B, cap, h1, _, h2, h3, _⟩ := hry
    have := h2 rfl
    subst this
    exact ⟨B, h1, h3⟩
  obtain ⟨B0, cap0, xs, ey, _, _, hxl, hxr, _, hxc⟩ := (ro_reads (hs := hs) hry).list
  obtain ⟨v', w', h1, h2, h3, h4⟩ : ∃ v' w', (Builtin.append_ #[t, t] o.type #[ρ y, .slice (some ad) m cap']).run P w = .ok v' w' ∧ w'.ownsRow 0 e inf.size v' (n + m) (xs ++ news) ∧ w.grownBy w' none ∧ ∀ k, v'.ownBlock = some k → w.heap.size ≤ k := by
    obtain ⟨B, hB, hB0⟩ := htight
    cases B with
    | none =>
      have hn0 := hB0 rfl
      subst hn0
      have hx0 : xs = [] := List.eq_nil_of_length_eq_zero (by simpa using hxl)
      subst hx0
      obtain ⟨v', w', h1, h2, h3, h4⟩ := run_append_any (P := P) hu hi hz hzs hp o.type w (.slice none 0 0) 0 [] (World.ownsRow_nil w 0 e inf.size) (some ad) m cap' news (fun h => by cases h) hn' hlen (fun _ => ⟨ad, rfl, hcs⟩) hone h63 hb
      refine ⟨v', w', by rw [hB]; exact h1, h2, h3, fun k hk => ?_⟩
      rcases h4 with h4 | h4
      · rw [h4] at hk; simp [Value.ownBlock] at hk
      · rw [h4] at hk; cases hk; exact Nat.le_refl _
    | some b =>
      have hxc' : ∀ (j : Nat) u, xs[j]? = some u → w.cell? (b.add j) = some u := by
        rcases Nat.eq_zero_or_pos n with h0 | h0
        · subst h0
          have hx0 : xs = [] := List.eq_nil_of_length_eq_zero (by simpa using hxl)
          subst hx0
          intro j u hu; simp at hu
        · obtain ⟨b', off, h5, h6⟩ := hxc h0
          rw [hB] at ey
          simp only [Value.slice.injEq] at ey
          rw [← ey.1] at h5
          cases h5
          exact h6
      obtain ⟨v', w', h1, h2, h3⟩ := run_append_arg_grows (P := P) w t o.type e inf z inf.size inf.bytes hu hi hz rfl rfl hzs hp b n n xs hxl hxc' ad m cap' news hlen hcs (by omega) h63 hb
      have hlt := h2.lt
      refine ⟨v', w', by rw [hB]; exact h1, ⟨h2.1, ?_⟩, h3, fun k hk => (hlt k hk).1⟩
      rcases h2.2 with h5 | ⟨x0, c0, cu, h5, _, h6⟩
      · exact .inl h5
      · exact .inr ⟨x0, c0, cu, h5, Nat.zero_le _, h6⟩
  have hfr : Fr (fun _ => False) w w' := (grown_fr h3).mono fun x _ hx => by cases hx
  refine ⟨v', v', w', by rw [builtin_append_run ho hc hx ht, ez, h1]; rfl, hfr, ?_, fun x hx => ?_, ?_⟩
  · intro hs' O' _ hO _
    refine owns_blk h2 fun i hi' t' ht' u hu' => ?_
    have h6 := catG_rel (q := inf.size) hxl hxr hrel i hi' t' ht' u hu'
    exact Rel.mono hfr.size (fun y hy _ => hfr.block y hy id) hO _ _ _ _ (fun _ _ h => h) h6
  · rw [ownBlock_owner] at hx
    exact h4 x hx
  · intro hs' O' _ hn _
    refine ⟨hn, ?_⟩
    rcases h2.2 with ⟨h5, _⟩ | ⟨a, b, d, h5, _⟩ <;> exact ⟨_, _, _, h5⟩
end
end Go.Eng
