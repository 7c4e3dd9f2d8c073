/- A symbolic executor over the model's code, and that it is sound, part 1: lemmas for the proofs of this seat, no statement of their own. No conditions. -/
import Derived.WalkKit
import Derived.DeepKeys

set_option linter.unusedVariables false
/- Definitions of a symbolic executor over the model's code. -/
namespace Go.Vx
noncomputable section

/-- symbolic values -/
inductive SV where
  | any
  | bool (b : Bool)
  | sbool (b : Bool)
  | lit (k : IntKind) (n : Int)
  | int (k : IntKind) (n : Int)
  | raw (v : Value)
  | ptr (id off : Nat)
  | sptr (id m i sz j : Nat)
  | sl (id m off sz j len : Nat) (known : Bool)
  | own (id : Nat)
  | ro (sz n : Nat) (f : Nat → SV)
  | roi (k : IntKind) (l : List Int)
  | rob (q : Nat) (k : IntKind) (l : List Int)
  | rop (v : SV)
  | agg (cs : List SV)
  | tuple (vs : List SV)
  | func (f : FuncId) (first cap : List SV)
  deriving Inhabited

def isAggS : SV → Bool
  | .agg _ => true
  | _ => false

/-- what a chunk of memory holds -/
inductive Body where
  | cells (cs : List SV)
  | ints (k : IntKind) (l : List Int)
  | rows (ks : List IntKind) (l : List (List Int))
  | log (l : List (List Int))
  | lists (q : Nat) (k : IntKind) (l : List (List Int))
  | grow (ks : List IntKind) (l : List (List Int))
  deriving Inhabited


inductive Ex where
  | normal
  | exit (id : Nat)
  | ret


/-! ### tries: memory and slots, made so that the kernel is quick with them -/
inductive Tr (α : Type) where
  | lf
  | nd (v : α) (l r : Tr α)

def Tr.get {α : Type} (d : α) (t : Tr α) : Nat → α :=
  Tr.rec (motive := fun _ => Nat → α) (fun _ => d) (fun v _ _ gl gr i =>
    Nat.rec (motive := fun _ => α) v (fun i _ => Bool.rec (gr (Nat.div i 2)) (gl (Nat.div i 2)) (Nat.beq (Nat.mod i 2) 0)) i) t

def Tr.setF {α : Type} (d : α) (n : Nat) : Tr α → Nat → α → Tr α :=
  Nat.rec (motive := fun _ => Tr α → Nat → α → Tr α) (fun t _ _ => t) (fun _ ih t i x =>
    Tr.rec (motive := fun _ => Tr α)
      (Nat.rec (motive := fun _ => Tr α) (.nd x .lf .lf) (fun i _ => Bool.rec (.nd d .lf (ih .lf (Nat.div i 2) x)) (.nd d (ih .lf (Nat.div i 2) x) .lf) (Nat.beq (Nat.mod i 2) 0)) i)
      (fun v l r _ _ => Nat.rec (motive := fun _ => Tr α) (.nd x l r) (fun i _ => Bool.rec (.nd v l (ih r (Nat.div i 2) x)) (.nd v (ih l (Nat.div i 2) x) r) (Nat.beq (Nat.mod i 2) 0)) i)
      t) n

/-- depth 16: places below 65535 -/
def Tr.set {α : Type} (d : α) (t : Tr α) (i : Nat) (x : α) : Tr α := Tr.setF d 16 t i x

def trMax : Nat := 65535

abbrev Tmps := Tr SV
structure Heap where
  tr : Tr (Option Body)
  nx : Nat

def tget (T : Tmps) (i : Nat) : SV := T.get .any i
def hget (H : Heap) (i : Nat) : Option Body := H.tr.get none i

def ecount : Body → Nat
  | .cells cs => cs.length
  | .ints _ l => l.length
  | .rows _ l => l.length
  | .log l => l.length
  | .lists _ _ l => l.length
  | .grow _ l => l.length

def isLog : Body → Bool
  | .log _ => true
  | _ => false

/-! ### numbers -/
def modulus : IntKind → Nat
  | .i8 | .u8 => 256
  | .i16 | .u16 => 65536
  | .i32 | .u32 => 4294967296
  | .i64 | .u64 => 18446744073709551616

def uns : IntKind → Bool
  | .u8 | .u16 | .u32 | .u64 => true
  | _ => false

def inRange (k : IntKind) (n : Int) : Bool :=
  match uns k, n with
  | true, .ofNat m => Nat.blt m (modulus k)
  | true, .negSucc _ => false
  | false, .ofNat m => Nat.blt m (modulus k / 2)
  | false, .negSucc m => Nat.blt m (modulus k / 2)

/-- a number in range, as a statement -/
def Fits (k : IntKind) (n : Int) : Prop := k.min ≤ n ∧ n ≤ k.max

def forceN {α : Type} (m : Nat) (f : Nat → α) : α :=
  match m with
  | 0 => f 0
  | m + 1 => f (m + 1)

def mkLit (k : IntKind) (n : Int) : SV :=
  match n with
  | .ofNat m => forceN m fun m => .lit k (.ofNat m)
  | .negSucc m => forceN m fun m => .lit k (.negSucc m)

def mkNum (l : Bool) (k : IntKind) (n : Int) : SV := match l with | true => mkLit k n | false => .int k n

def num : SV → Option (Bool × IntKind × Int)
  | .lit k n => some (true, k, n)
  | .int k n => some (false, k, n)
  | _ => none

def boolOf : SV → Option (Bool × Bool)
  | .bool b => some (true, b)
  | .sbool b => some (false, b)
  | _ => none

def mkBool (l : Bool) (b : Bool) : SV := match l, b with | true, true => .bool true | true, false => .bool false | false, b => .sbool b

def isMask (m : Nat) : Bool := Nat.beq (2 ^ Nat.log2 (m + 1)) (m + 1)

def landN (lx ly : Bool) (x y : Nat) : Nat :=
  match ly && isMask y with
  | true => x % (y + 1)
  | false => match lx && isMask x with
    | true => y % (x + 1)
    | false => x &&& y

/-- arithmetic on unsigned numbers -/
def arithU (op : BinOp) (M : Nat) (lx ly : Bool) (x y : Nat) : Option (Nat × List Prop) :=
  match op with
  | .add => some ((x + y) % M, [])
  | .sub => some ((x + (M - y)) % M, [])
  | .mul => some ((x * y) % M, [])
  | .and => some (landN lx ly x y, [])
  | .or => some (x ||| y, [])
  | .xor => some (x ^^^ y, [])
  | .quo => match ly, y with | true, 0 => none | true, _ => some (x / y, []) | false, _ => some (x / y, [y ≠ 0])
  | .rem => match ly, y with | true, 0 => none | true, _ => some (x % y, []) | false, _ => some (x % y, [y ≠ 0])
  | _ => none

/-- arithmetic on Go's signed numbers, symbolic: what must hold so that nothing wraps -/
def arithS (op : BinOp) (k : IntKind) (lx ly : Bool) (x y : Int) : Option (Int × List Prop) :=
  match op with
  | .add => some (x + y, [Fits k (x + y)])
  | .sub => some (x - y, [Fits k (x - y)])
  | .mul => some (x * y, [Fits k (x * y)])
  | .quo => match ly, y with | true, .ofNat (n + 1) => some (x.tdiv (.ofNat (n + 1)), []) | _, _ => none
  | .rem => match ly, y with | true, .ofNat (n + 1) => some (x.tmod (.ofNat (n + 1)), []) | false, y => some (x.tmod y, [0 < y]) | _, _ => none
  | .and => match ly && isMask y.toNat, y with
    | true, .ofNat m => some (x % .ofNat (m + 1), [])
    | _, y => some (.ofNat (landN lx ly x.toNat y.toNat), [0 ≤ x ∧ 0 ≤ y])
  | .or => some (.ofNat (x.toNat ||| y.toNat), [0 ≤ x ∧ 0 ≤ y])
  | .xor => some (.ofNat (x.toNat ^^^ y.toNat), [0 ≤ x ∧ 0 ≤ y])
  | _ => none

/-- arithmetic on signed literals -/
def arithL (op : BinOp) (k : IntKind) (x y : Int) : Option Int :=
  match op with
  | .add => some (k.wrap (x + y))
  | .sub => some (k.wrap (x - y))
  | .mul => some (k.wrap (x * y))
  | .quo => match y with | .ofNat (n + 1) => some (x.tdiv (.ofNat (n + 1))) | _ => none
  | .rem => match y with | .ofNat (n + 1) => some (x.tmod (.ofNat (n + 1))) | _ => none
  | .and => match x, y with | .ofNat a, .ofNat b => some (.ofNat (a &&& b)) | _, _ => none
  | .or => match x, y with | .ofNat a, .ofNat b => some (.ofNat (a ||| b)) | _, _ => none
  | .xor => match x, y with | .ofNat a, .ofNat b => some (.ofNat (a ^^^ b)) | _, _ => none
  | _ => none

/-- unsigned arithmetic, with heads of its own (the kernel compares them head by head) -/
def uadd (k : IntKind) (a b : Int) : Int := .ofNat ((a.toNat + b.toNat) % modulus k)
def usub (k : IntKind) (a b : Int) : Int := .ofNat ((a.toNat + (modulus k - b.toNat)) % modulus k)
def umul (k : IntKind) (a b : Int) : Int := .ofNat ((a.toNat * b.toNat) % modulus k)
def uand (a b : Int) : Int := .ofNat (a.toNat &&& b.toNat)
def umask (a b : Int) : Int := .ofNat (a.toNat % (b.toNat + 1))
def uor (a b : Int) : Int := .ofNat (a.toNat ||| b.toNat)
def uxor (a b : Int) : Int := .ofNat (a.toNat ^^^ b.toNat)
def uquo (a b : Int) : Int := .ofNat (a.toNat / b.toNat)
def urem (a b : Int) : Int := .ofNat (a.toNat % b.toNat)
def ushl (k : IntKind) (a b : Int) : Int := .ofNat ((a.toNat * 2 ^ b.toNat) % modulus k)
def ushr (a b : Int) : Int := .ofNat (a.toNat / 2 ^ b.toNat)
def uneg (k : IntKind) (a : Int) : Int := .ofNat ((modulus k - a.toNat) % modulus k)
def unot (k : IntKind) (a : Int) : Int := .ofNat (modulus k - 1 - a.toNat)
def ucut (k : IntKind) (a : Int) : Int := .ofNat (a.toNat % modulus k)
def scut (k : IntKind) (a : Int) : Int := a % (modulus k : Nat)

def symU (op : BinOp) (k : IntKind) (lx ly : Bool) (a b n : Int) : SV :=
  match op with
  | .add => .int k (uadd k a b)
  | .sub => .int k (usub k a b)
  | .mul => .int k (umul k a b)
  | .and => match ly && isMask b.toNat with
    | true => .int k (umask a b)
    | false => match lx && isMask a.toNat with
      | true => .int k (umask b a)
      | false => .int k (uand a b)
  | .or => .int k (uor a b)
  | .xor => .int k (uxor a b)
  | .quo => .int k (uquo a b)
  | .rem => .int k (urem a b)
  | _ => .int k n
def symS (op : BinOp) (k : IntKind) (a b n : Int) : SV :=
  match op, uns k with
  | .shl, true => .int k (ushl k a b)
  | .shr, true => .int k (ushr a b)
  | _, _ => .int k n
def litOr (l : Bool) (k : IntKind) (n : Int) (s : SV) : SV := match l with | true => mkLit k n | false => s

def cmpI (op : BinOp) (x y : Int) : Option Bool :=
  match op with
  | .eql => some (decide (x = y))
  | .neq => some (!decide (x = y))
  | .lss => some (decide (x < y))
  | .leq => some (decide (x ≤ y))
  | .gtr => some (decide (y < x))
  | .geq => some (decide (y ≤ x))
  | _ => none

def isCmp : BinOp → Bool
  | .eql | .neq | .lss | .leq | .gtr | .geq => true
  | _ => false

def shiftI (op : BinOp) (k : IntKind) (lx ly : Bool) (x y : Int) : Option (Int × List Prop) :=
  match ly, y with
  | true, .negSucc _ => none
  | ly, y =>
    let cy : List Prop := match ly with | true => [] | false => [0 ≤ y]
    match op, uns k with
    | .shl, true => some (.ofNat ((x.toNat * 2 ^ y.toNat) % modulus k), cy)
    | .shr, true => some (.ofNat (x.toNat / 2 ^ y.toNat), cy)
    | .shl, false => match ly, Nat.ble y.toNat k.bits with
      | true, true => match lx with
        | true => some (k.wrap (x * 2 ^ y.toNat), [])
        | false => some (x * 2 ^ y.toNat, [Fits k (x * 2 ^ y.toNat)])
      | true, false => none
      | false, _ => some (x * 2 ^ y.toNat, [0 ≤ y, y.toNat ≤ k.bits, Fits k (x * 2 ^ y.toNat)])
    | .shr, false => match ly, Nat.ble y.toNat k.bits with
      | true, true => some (x / 2 ^ y.toNat, [])
      | true, false => none
      | false, _ => some (x / 2 ^ y.toNat, [0 ≤ y, y.toNat ≤ k.bits])
    | _, _ => none

/-- the numbers of a list of cells -/
def numsOf : List SV → Option (List Int)
  | [] => some []
  | c :: cs => match num c, numsOf cs with
    | some (_, _, n), some r => some (n :: r)
    | _, _ => none

def isNilPtr : SV → Bool
  | .raw (.pointer none) => true
  | _ => false
def isPtr : SV → Bool
  | .ptr .. | .sptr .. | .rop _ => true
  | _ => false

structure OpOut where
  val : SV
  upd : List (Nat × Option Body) := []
  new : List Body := []
  reads : List Nat := []
  C : List Prop := []

def pureOut (v : SV) (C : List Prop := []) : Option OpOut := some { val := v, C }

def isAggT (P : Program) (t : TypeId) : Bool :=
  match P.underlying t with
  | some (.struct _) | some (.array _ _) => true
  | _ => false

def kidx : IntKind → Nat
  | .i8 => 0 | .i16 => 1 | .i32 => 2 | .i64 => 3 | .u8 => 4 | .u16 => 5 | .u32 => 6 | .u64 => 7
def sameK (a b : IntKind) : Bool := Nat.beq (kidx a) (kidx b)
/-- cells of these kinds: their numbers -/
def numsAs : List IntKind → List SV → Option (List Int)
  | [], [] => some []
  | k :: ks, c :: cs => match num c, numsAs ks cs with
    | some (_, k', n), some r => match sameK k k' with
      | true => some (n :: r)
      | false => none
    | _, _ => none
  | _, _ => none

/-- do the fields lie side by side? -/
def tightFields (P : Program) : List Field → Nat → Option Nat
  | [], n => some n
  | f :: r, n => if f.offset = n then tightFields P r (n + P.cellsOf f.type) else none

/-- the kinds of a type's cells, if all are numbers -/
def kindsT (P : Program) : Nat → TypeId → Option (List IntKind)
  | 0, _ => none
  | d + 1, t =>
    let r : Option (List IntKind) := match P.underlying t with
      | some (.int k) => some [k]
      | some (.array n e) => match kindsT P d e with
        | some l => some (List.replicate n l).flatten
        | none => none
      | some (.struct fs) => match tightFields P fs.toList 0, fs.all (·.name != "_") with
        | some _, true => match fs.toList.mapM fun f => kindsT P d f.type with
          | some ls => some ls.flatten
          | none => none
        | _, _ => none
      | _ => none
    match r with
    | some l => match Nat.beq l.length (P.cellsOf t) with
      | true => some l
      | false => none
    | none => none

def isConstO : Operand → Bool
  | .const _ => true
  | _ => false

def eqV (P : Program) (t : TypeId) (cst : Bool) (x y : SV) : Option SV :=
      match x, y with
      | .agg xs, .agg ys => match ((P.keyTypeAt 8 t).and (P.eqGuardType P.depth t).not).and (isAggT P t), kindsT P 8 t with
        | true, some ks => match numsAs ks xs, numsAs ks ys with
          | some a, some b => some (.sbool (decide (a = b)))
          | _, _ => none
        | _, _ => none
      | x, y => match boolOf x, boolOf y with
        | some (lx, a), some (ly, b) => match P.underlying t with
          | some .bool => some (mkBool (lx && ly) (a == b))
          | _ => none
        | _, _ => match x, y with
          | .raw (.string a), .raw (.string b) => some (.sbool (a.data.toList == b.data.toList))
          | .raw .nilIface, .raw .nilIface => match P.underlying t, cst with
            | some (.interface _), true => some (.bool true)
            | _, _ => none
          | .raw (.iface _ _), .raw .nilIface => match P.underlying t with
            | some (.interface _) => some (.bool false)
            | _ => none
          | .func .., .raw .nilFunc => match P.underlying t with
            | some (.func ..) => some (.bool false)
            | _ => none
          | x, y => match P.underlying t, isNilPtr y with
            | some (.pointer _), true => match isNilPtr x, isPtr x with
              | true, _ => some (.bool true)
              | _, true => some (.bool false)
              | _, _ => none
            | _, _ => none

def eqOut (op : BinOp) (eq : Option SV) : Option OpOut :=
    match op, eq with
    | .eql, some v => pureOut v
    | .neq, some (.bool b) => pureOut (.bool (!b))
    | .neq, some (.sbool b) => pureOut (.sbool (!b))
    | _, _ => none

/-- two interface values that hold one and the same pointer -/
def eqIface (P : Program) (op : BinOp) (t : TypeId) (x y : SV) : Option OpOut :=
  match x, y with
  | .raw (.iface T (.pointer (some a))), .raw (.iface T' (.pointer (some b))) =>
    match Nat.beq T T', P.underlying t, P.underlying T with
    | true, some (.interface _), some (.pointer e) => match ((P.info? T).map (·.comparable)).getD false, (P.info? e).isSome, op with
      | true, true, .eql => pureOut (.bool true) [a = b]
      | true, true, .neq => pureOut (.bool false) [a = b]
      | _, _, _ => none
    | _, _, _ => none
  | _, _ => none

def binV (P : Program) (op : BinOp) (t : TypeId) (cst : Bool) (x y : SV) : Option OpOut :=
  match num x, num y with
  | some (lx, k, a), some (ly, k', b) =>
    match op with
    | .shl | .shr => match shiftI op k lx ly a b with
      | some (n, C) => pureOut (litOr (lx && ly) k n (symS op k a b n)) C
      | none => none
    | _ =>
      if k = k' then
        match isCmp op with
        | true => match cmpI op a b with
          | some c => pureOut (mkBool (lx && ly) c)
          | none => none
        | false => match uns k with
          | true => match arithU op (modulus k) lx ly a.toNat b.toNat with
            | some (n, C) => pureOut (litOr (lx && ly) k (.ofNat n) (symU op k lx ly a b (.ofNat n))) C
            | none => none
          | false => match lx && ly with
            | true => match arithL op k a b with
              | some n => pureOut (mkLit k n)
              | none => none
            | false => match arithS op k lx ly a b with
              | some (n, C) => pureOut (.int k n) C
              | none => none
      else none
  | _, _ => match eqIface P op t x y with
    | some o => some o
    | none => eqOut op (eqV P t cst x y)

def unV (op : UnOp) (x : SV) : Option OpOut :=
  match op with
  | .not => match boolOf x with
    | some (l, b) => pureOut (mkBool l (!b))
    | none => none
  | .neg => match num x with
    | some (l, k, n) => match uns k with
      | true => pureOut (litOr l k (.ofNat ((modulus k - n.toNat) % modulus k)) (.int k (uneg k n)))
      | false => match l with
        | true => pureOut (mkLit k (k.wrap (0 - n)))
        | false => pureOut (.int k (-n)) [Fits k (-n)]
    | none => none
  | .xor => match num x with
    | some (l, k, n) => match uns k with
      | true => pureOut (litOr l k (.ofNat (modulus k - 1 - n.toNat)) (.int k (unot k n)))
      | false => none
    | none => none
  | _ => none

def convV (P : Program) (src dst : TypeId) (x : SV) : Option OpOut :=
  match num x, P.underlying src, P.underlying dst with
  | some (l, k, n), some _, some (.int k') =>
    match uns k, uns k' with
    | true, true => match Nat.ble (modulus k) (modulus k') with
      | true => pureOut (mkNum l k' n)
      | false => pureOut (litOr l k' (.ofNat (n.toNat % modulus k')) (.int k' (ucut k' n)))
    | true, false => match Nat.blt (modulus k) (modulus k') with
      | true => pureOut (mkNum l k' n)
      | false => match l with
        | true => pureOut (mkLit k' (k'.wrap n))
        | false => pureOut (.int k' n) [Fits k' n]
    | false, true => pureOut (litOr l k' (n % (modulus k' : Nat)) (.int k' (scut k' n)))
    | false, false => match decide (k = k') with
      | true => pureOut x
      | false => none
  | _, some _, some .string => match x with
    | .raw (.string s) => pureOut (.raw (.string s))
    | _ => none
  | _, _, _ => none

/-! ### memory -/
/-- the i-th of m numbers that stand sz cells apart, from cell j on -/
def pick (cs : List SV) (m i sz j : Nat) : Option SV :=
  match (List.range m).mapM fun e => (cs[j + e * sz]?).bind num with
  | some ((l, k, n) :: r) => match r.all fun x => decide (x.2.1 = k) with
    | true => some (.int k ((((l, k, n) :: r).map (·.2.2)).getD i 0))
    | false => none
  | _ => none

def rowCell (ks : List IntKind) (l : List (List Int)) (i j : Nat) : Option SV :=
  match ks[j]? with
  | some k => some (.int k ((l.getD i []).getD j 0))
  | none => none

/-- where a cell is: a cell by its number; or by a symbolic place -/
inductive Loc where
  | at (off : Nat)
  | sym (m i sz j : Nat)

def readOne (b : Body) (p : Loc) (t : Nat) : Option (SV × List Prop) :=
  match b, p with
  | .cells cs, .at off => match cs[off + t]? with
    | some v => some (v, [])
    | none => none
  | .cells cs, .sym m i sz j => match pick cs m i sz (j + t) with
    | some v => some (v, [i < m])
    | none => none
  | .ints k l, .at off => some (.int k (l.getD (off + t) 0), [off + t < l.length])
  | .ints k l, .sym _ i sz j => match Nat.beq sz 1 with
    | true => some (.int k (l.getD (i + (j + t)) 0), [i + (j + t) < l.length])
    | false => none
  | .rows ks l, .at off => match rowCell ks l ((off + t) / ks.length) ((off + t) % ks.length) with
    | some v => some (v, [(off + t) / ks.length < l.length])
    | none => none
  | .rows ks l, .sym _ i sz j => match Nat.beq sz ks.length, rowCell ks l i (j + t) with
    | true, some v => some (v, [i < l.length])
    | _, _ => none
  | .log _, _ => none
  | .lists .., _ => none
  | .grow ks l, .at off => match rowCell ks l ((off + t) / ks.length) ((off + t) % ks.length) with
    | some v => some (v, [(off + t) / ks.length < l.length])
    | none => none
  | .grow ks l, .sym _ i sz j => match Nat.beq sz ks.length, rowCell ks l i (j + t) with
    | true, some v => some (v, [i < l.length])
    | _, _ => none

def readN (b : Body) (p : Loc) : (n t : Nat) → Option (List SV × List Prop)
  | 0, _ => some ([], [])
  | n + 1, t => match readOne b p t, readN b p n (t + 1) with
    | some (v, C), some (vs, D) => some (v :: vs, C ++ D)
    | _, _ => none

/-- stores a number at a symbolic place: each of the m cells is an 'if' -/
def poke (cs : List SV) (i sz j : Nat) (v : SV) : (m e : Nat) → Option (List SV)
  | 0, _ => some cs
  | m + 1, e =>
    match poke cs i sz j v m (e + 1) with
    | none => none
    | some cs => match cs[j + e * sz]?, num v with
      | some c, some (_, k, n) => match num c with
        | some (_, k', n') => match decide (k = k') with
          | true => some (cs.set (j + e * sz) (.int k (if i = e then n else n')))
          | false => none
        | none => none
      | _, _ => none

def writeOne (b : Body) (p : Loc) (t : Nat) (v : SV) : Option (Body × List Prop) :=
  match b, p with
  | .cells cs, .at off => match cs[off + t]? with
    | some _ => some (.cells (cs.set (off + t) v), [])
    | none => none
  | .cells cs, .sym m i sz j => match poke cs i sz (j + t) v m 0 with
    | some cs => some (.cells cs, [i < m])
    | none => none
  | .ints k l, .at off => match num v with
    | some (_, k', n) => match decide (k = k') with
      | true => some (.ints k (l.set (off + t) n), [off + t < l.length])
      | false => none
    | none => none
  | .ints k l, .sym _ i sz j => match num v, Nat.beq sz 1 with
    | some (_, k', n), true => match decide (k = k') with
      | true => some (.ints k (l.set (i + (j + t)) n), [i + (j + t) < l.length])
      | false => none
    | _, _ => none
  | .rows ks l, .sym _ i sz j => match num v, ks[j + t]?, Nat.beq sz ks.length with
    | some (_, k', n), some k, true => match decide (k = k') with
      | true => some (.rows ks (l.set i ((l.getD i []).set (j + t) n)), [i < l.length])
      | false => none
    | _, _, _ => none
  | _, _ => none

def writeN (b : Body) (p : Loc) : (t : Nat) → List SV → Option (Body × List Prop)
  | _, [] => some (b, [])
  | t, v :: vs => match writeOne b p t v with
    | some (b, C) => match writeN b p (t + 1) vs with
      | some (b, D) => some (b, C ++ D)
      | none => none
    | none => none

def locOf : SV → Option (Nat × Loc)
  | .ptr id off => some (id, .at off)
  | .sptr id m i sz j => some (id, .sym m i sz j)
  | _ => none

def knownT (P : Program) (t : TypeId) : Bool := match P.underlying t with | some _ => true | none => false

def cellsV : SV → List SV
  | .agg cs => cs
  | v => [v]

/-- may it stand in one cell? -/
def oneV : Value → Bool
  | .agg _ | .tuple _ => false
  | _ => true
def oneCell : SV → Bool
  | .any | .agg _ | .tuple _ => false
  | .raw v => oneV v
  | _ => true

def loadV (P : Program) (H : Nat → Option Body) (t : TypeId) (x : SV) : Option OpOut :=
  match knownT P t with
  | false => none
  | true => match x with
    | .rop v => match isAggT P t, v with
      | true, .agg cs => match Nat.beq cs.length (P.cellsOf t) with
        | true => pureOut (.agg cs)
        | false => none
      | true, _ => none
      | false, v => match oneCell v with
        | true => pureOut v
        | false => none
    | x => match locOf x with
      | some (id, p) => match H id with
        | some b => match readN b p (P.cellsOf t) 0 with
          | some (vs, C) => match isAggT P t, vs with
            | true, vs => some { val := .agg vs, reads := [id], C }
            | false, [v] => match isAggS v with
              | false => some { val := v, reads := [id], C }
              | true => none
            | _, _ => none
          | none => none
        | none => none
      | none => none

def posLoc : Loc → Bool
  | .at _ => true
  | .sym _ _ sz _ => Nat.blt 0 sz

def storeV (P : Program) (H : Nat → Option Body) (t : TypeId) (x v : SV) : Option OpOut :=
  match locOf x with
  | some (id, p) => match H id with
    | some b => match (Nat.beq (cellsV v).length (P.cellsOf t)).and (((cellsV v).all oneCell).and ((posLoc p).and (knownT P t))) with
      | true => match writeN b p 0 (cellsV v) with
        | some (b, C) => some { val := .raw undef, upd := [(id, some b)], reads := [id], C }
        | none => none
      | false => none
    | none => none
  | none => none

def ofCells (vs : List Value) : List SV :=
  vs.map fun v => match v with
    | .bool b => .bool b
    | .int k n => bif inRange k n then mkLit k n else .any
    | v => .raw v

def ofConst (v : Value) : SV :=
  match v with
  | .bool b => .bool b
  | .int k n => bif inRange k n then mkLit k n else .any
  | .agg cs => bif cs.toList.all oneV then .agg (ofCells cs.toList) else .any
  | v => .raw v

def zeroV (P : Program) (t : TypeId) : Option SV := (P.info? t).bind fun i => i.zero.map ofConst

def boxV (nx : Nat) (v : SV) : Option OpOut :=
  match (cellsV v).all oneCell with
  | true => some { val := .ptr nx 0, new := [.cells (cellsV v)] }
  | false => none

def partV (P : Program) (t : TypeId) (cs : List SV) (off : Nat) : Option SV :=
  match knownT P t, isAggT P t with
  | true, true => match Nat.ble (off + P.cellsOf t) cs.length with
    | true => some (.agg ((cs.drop off).take (P.cellsOf t)))
    | false => none
  | true, false => match cs[off]? with
    | some v => match oneCell v with
      | true => some v
      | false => none
    | none => none
  | false, _ => none

def fieldOf (P : Program) (t : TypeId) (f : Nat) : Option Field :=
  match P.underlying t with
  | some (.struct fs) => fs[f]?
  | _ => none

def fieldAddrV (P : Program) (t : TypeId) (x : SV) (f : Nat) : Option OpOut :=
  match fieldOf P t f with
  | some fd => match (Nat.beq (P.cellsOf fd.type) 0).or (knownT P fd.type).not with
    | true => none
    | false => match x with
      | .ptr id off => pureOut (.ptr id (off + fd.offset))
      | .sptr id m i sz j => pureOut (.sptr id m i sz (j + fd.offset))
      | .rop (.agg cs) => match partV P fd.type cs fd.offset with
        | some v => pureOut (.rop v)
        | none => none
      | _ => none
  | none => none

def fieldV (P : Program) (t : TypeId) (x : SV) (f : Nat) : Option OpOut :=
  match fieldOf P t f, x with
  | some fd, .agg cs => match partV P fd.type cs fd.offset with
    | some v => pureOut v
    | none => none
  | _, _ => none

/-- the i-th element of an array's cells, i symbolic -/
def indexSym (cs : List SV) (n sz : Nat) (i : Nat) : Option SV :=
  match sz with
  | 1 => pick cs n i 1 0
  | _ => none

def indexV (P : Program) (t : TypeId) (x ix : SV) : Option OpOut :=
  match num ix, P.underlying t with
  | some (l, _, i), some (.array n e) => match x with
    | .agg cs => match l, i with
      | true, .ofNat i => match Nat.blt i n with
        | true => match partV P e cs (i * P.cellsOf e) with
          | some v => pureOut v
          | none => none
        | false => none
      | true, _ => none
      | false, i => match (isAggT P e).or (knownT P e).not, Nat.beq (P.cellsOf e) 1, pick cs n i.toNat 1 0 with
        | false, true, some v => pureOut v [0 ≤ i ∧ i < n]
        | _, _, _ => none
    | _ => none
  | some (l, _, i), some .string => match x with
    | .raw (.string s) => match l, i with
      | true, .ofNat i => match s.data.toList[i]? with
        | some b => pureOut (mkLit .u8 b.toNat)
        | none => none
      | _, _ => none
    | _ => none
  | _, _ => none

def indexLitV (P : Program) (n : Nat) (e : TypeId) (x : SV) (i : Nat) : Option OpOut :=
  match Nat.blt i n with
  | true => match x with
    | .ptr id off => pureOut (.ptr id (off + i * P.cellsOf e))
    | .sptr id m i' sz' j => match (Nat.beq (P.cellsOf e) 1).and (Nat.beq sz' 1) with
      | true => pureOut (.sptr id m (i' + i) 1 j)
      | false => pureOut (.sptr id m i' sz' (j + i * P.cellsOf e))
    | .rop (.agg cs) => match partV P e cs (i * P.cellsOf e) with
      | some v => pureOut (.rop v)
      | none => none
    | _ => none
  | false => none

def indexSymV (P : Program) (n : Nat) (e : TypeId) (x : SV) (i : Int) : Option OpOut :=
  match x with
  | .ptr id off => pureOut (.sptr id n i.toNat (P.cellsOf e) off) [0 ≤ i ∧ i < n]
  | .sptr id m i' sz' j => match (Nat.beq (P.cellsOf e) 1).and (Nat.beq sz' 1) with
    | true => pureOut (.sptr id m (i' + i.toNat) 1 j) [0 ≤ i ∧ i < n]
    | false => none
  | _ => none

def indexSlLitV (id off sz j len i : Nat) : Option OpOut :=
  match Nat.blt i len with
  | true => pureOut (.ptr id ((off + i) * sz + j))
  | false => none

def indexSlV (P : Program) (H : Nat → Option Body) (e : TypeId) (x : SV) (l : Bool) (i : Int) : Option OpOut :=
  match x with
  | .sl id m off sz' j len known => match Nat.beq (P.cellsOf e) sz' with
    | true => match known.and l, i with
      | true, .ofNat i => indexSlLitV id off sz' j len i
      | true, _ => none
      | false, i => pureOut (.sptr id m (off + i.toNat) sz' j) [0 ≤ i ∧ i < len]
    | false => none
  | .own id => match H id with
    | some bd => some { val := .sptr id 0 i.toNat (P.cellsOf e) 0, reads := [id], C := [0 ≤ i ∧ i < ecount bd] }
    | none => none
  | .roi k vs => match Nat.beq (P.cellsOf e) 1 with
    | true => pureOut (.rop (.int k (vs.getD i.toNat 0))) [0 ≤ i ∧ i < vs.length]
    | false => none
  | .ro sz' n f => match Nat.beq (P.cellsOf e) sz' with
    | true => pureOut (.rop (f i.toNat)) [0 ≤ i ∧ i < n]
    | false => none
  | _ => none

def indexAddrV (P : Program) (H : Nat → Option Body) (t : TypeId) (x ix : SV) : Option OpOut :=
  match num ix with
  | some (l, _, i) => match P.underlying t with
    | some (.array n e) => match knownT P e, l, i with
      | true, true, .ofNat i => indexLitV P n e x i
      | true, false, i => indexSymV P n e x i
      | _, _, _ => none
    | some (.slice e) => match knownT P e with
      | true => indexSlV P H e x l i
      | false => none
    | _ => none
  | none => none

/-- bounds of a slice expression: known, low, high -/
def loV : Option SV → Option (Bool × Int)
  | none => some (true, 0)
  | some v => match num v with
    | some (l, _, n) => some (l, n)
    | none => none
def hiV (knownLen : Bool) (len : Nat) : Option SV → Option (Bool × Int)
  | none => some (knownLen, (len : Int))
  | some v => match num v with
    | some (l, _, n) => some (l, n)
    | none => none

def boundsV (knownLen : Bool) (len : Nat) (lo hi : Option SV) : Option (Bool × Nat × Nat × List Prop) :=
  match loV lo, hiV knownLen len hi with
  | some (kl, l), some (kh, h) => match kl && kh && knownLen with
    | true => match l, h with
      | .ofNat l, .ofNat h => match Nat.ble l h && Nat.ble h len with
        | true => some (true, l, h, [])
        | false => none
      | _, _ => none
    | false => some (false, l.toNat, h.toNat, [0 ≤ l ∧ l ≤ h ∧ h ≤ len])
  | _, _ => none

/-- cells that are numbers of kind k: their list -/
def intsOfE (k : IntKind) : List SV → Option (List Int)
  | [] => some []
  | c :: cs => match num c, intsOfE k cs with
    | some (_, k', n), some r => match sameK k' k with
      | true => some (n :: r)
      | false => none
    | _, _ => none
/-- the first numbers of a list, as cells -/
def roiL (k : IntKind) (vs : List Int) : Nat → Nat → List SV
  | 0, _ => []
  | n + 1, j => .int k (vs.getD j 0) :: roiL k vs n (j + 1)

def sliceV (P : Program) (H : Nat → Option Body) (t : TypeId) (x : SV) (lo hi mx : Option SV) : Option OpOut :=
  match mx, P.underlying t with
  | none, some (.array n e) => match knownT P e with
    | false => none
    | true => match boundsV true n lo hi with
    | some (kn, l, h, C) => match x with
      | .ptr id off => pureOut (.sl id n l (P.cellsOf e) off (h - l) kn) C
      | .sptr id m i 1 j => match Nat.beq (P.cellsOf e) 1 with
        | true => pureOut (.sl id m (i + l) 1 j (h - l) false) C
        | false => none
      | .rop (.agg cs) => match kindsT P 2 e with
        | some [k] => match intsOfE k cs with
          | some vs => match Nat.beq vs.length n with
            | true => pureOut (.roi k ((vs.drop l).take (h - l))) C
            | false => none
          | none => none
        | _ => none
      | _ => none
    | none => none
  | none, some (.slice e) => match knownT P e with
    | false => none
    | true => match x with
    | .sl id m off sz j len known => match Nat.beq sz (P.cellsOf e), boundsV known len lo hi with
      | true, some (kn, l, h, C) => pureOut (.sl id m (off + l) sz j (h - l) kn) C
      | _, _ => none
    | .own id => match H id with
      | some bd => match boundsV false (ecount bd) lo hi with
        | some (_, l, h, C) => some { val := .sl id 0 l (P.cellsOf e) 0 (h - l) false, reads := [id], C }
        | none => none
      | none => none
    | .roi k vs => match Nat.beq 1 (P.cellsOf e), boundsV false vs.length lo hi with
      | true, some (_, l, h, C) => pureOut (.roi k ((vs.drop l).take (h - l))) C
      | _, _ => none
    | .rob q k vs => match Nat.beq 1 (P.cellsOf e), boundsV false vs.length lo hi with
      | true, some (_, l, h, C) => pureOut (.rob q k ((vs.drop l).take (h - l))) C
      | _, _ => none
    | .ro sz n f => match Nat.beq sz (P.cellsOf e), boundsV false n lo hi with
      | true, some (_, l, h, C) => pureOut (.ro sz (h - l) fun i => f (l + i)) C
      | _, _ => none
    | _ => none
  | _, _ => none

def arrayPtrV (P : Program) (arr : TypeId) (x : SV) : Option OpOut :=
  match P.underlying arr, x with
  | some (.array n e), .sl id m off sz j len known => match Nat.beq sz (P.cellsOf e) && Nat.blt 0 n with
    | true => match known with
      | true => match Nat.ble n len with
        | true => pureOut (.ptr id (off * sz + j))
        | false => none
      | false => pureOut (.sptr id m off sz j) [n ≤ len]
    | false => none
  | some (.array n e), .roi k vs => match Nat.beq (P.cellsOf e) 1 && Nat.blt 0 n with
    | true => pureOut (.rop (.agg (roiL k vs n 0))) [n ≤ vs.length]
    | false => none
  | _, _ => none

def fillV (P : Program) (place : Nat → Option (Nat × Nat)) (cs : List SV) : List (Nat × SV) → Option (List SV)
  | [] => some cs
  | (i, v) :: r => match place i with
    | some (off, size) => match Nat.beq (cellsV v).length size && Nat.ble (off + size) cs.length && (cellsV v).all oneCell with
      | true => fillV P place (cs.take off ++ cellsV v ++ cs.drop (off + size)) r
      | false => none
    | none => none

def buildV (P : Program) (t : TypeId) (parts : List (Nat × SV)) : Option OpOut :=
  match zeroV P t with
  | some z => match (cellsV z).all oneCell with
    | false => none
    | true => match P.underlying t with
      | some (.struct fs) => match fs.toList.all fun f => knownT P f.type with
        | true => match fillV P (fun i => (fs[i]?).map fun f => (f.offset, P.cellsOf f.type)) (cellsV z) parts with
          | some cs => pureOut (.agg cs)
          | none => none
        | false => none
      | some (.array _ e) => match knownT P e with
        | true => match fillV P (fun i => some (i * P.cellsOf e, P.cellsOf e)) (cellsV z) parts with
          | some cs => pureOut (.agg cs)
          | none => none
        | false => none
      | _ => none
  | none => none

def repl (n : Nat) (z : List SV) : List SV := (List.replicate n z).flatten

def buildSliceV (P : Program) (nx : Nat) (t : TypeId) (len : Nat) (parts : List (Nat × SV)) : Option OpOut :=
  match P.underlying t with
  | some (.slice e) => match Nat.ble (len * P.cellsOf e) 16777216, zeroV P e with
    | true, some z => match ((cellsV z).all oneCell).and ((Nat.beq (cellsV z).length (P.cellsOf e)).and (Nat.blt 0 (P.cellsOf e))), fillV P (fun i => some (i * P.cellsOf e, P.cellsOf e)) (repl len (cellsV z)) parts with
      | true, some cs => some { val := .sl nx len 0 (P.cellsOf e) 0 len true, new := [.cells cs] }
      | _, _ => none
    | _, _ => none
  | _ => none

/-! ### slices as lists -/
/-- a length over a list of numbers need not be a literal -/
def notInts (b : Option Body) : Bool :=
  match b with
  | some (.ints _ _) => false
  | _ => true
/-- how many elements; is that a literal? -/
def lenV (P : Program) (H : Nat → Option Body) (x : SV) : Option (Bool × Nat × List Nat) :=
  match x with
  | .sl id _ _ _ _ len known => some (known.and (notInts (H id)), len, [])
  | .own id => match H id with
    | some (.ints _ l) => some (false, l.length, [id])
    | some (.rows _ l) => some (false, l.length, [id])
    | some (.grow _ l) => some (false, l.length, [id])
    | _ => none
  | .roi _ l => some (false, l.length, [])
  | .rob _ _ l => some (false, l.length, [])
  | .ro _ n _ => some (false, n, [])
  | .raw (.slice none 0 0) => some (true, 0, [])
  | .raw (.string s) => some (true, s.data.toList.length, [])
  | _ => none

def sameKs : List IntKind → List IntKind → Bool
  | [], [] => true
  | a :: r, b :: q => (sameK a b).and (sameKs r q)
  | _, _ => false

/-- cells that are numbers of kind k: their list -/
def intsOf (k : IntKind) : List SV → Option (List Int)
  | [] => some []
  | c :: cs => match num c, intsOf k cs with
    | some (_, k', n), some r => match sameK k' k with
      | true => some (n :: r)
      | false => none
    | _, _ => none

/-- the numbers (one cell an element) that a slice holds -/
def sliceInts (H : Nat → Option Body) (k : IntKind) (x : SV) : Option (List Int × List Nat × List Prop) :=
  match x with
  | .sl id _ off sz j len known => match H id, Nat.beq sz 1 with
    | some (.ints k' l), true => match sameK k' k with
      | true => some ((l.drop (off + j)).take len, [id], [off + j + len ≤ l.length])
      | false => none
    | some (.cells cs), true => match known with
      | true => match intsOf k ((cs.drop (off + j)).take len) with
        | some l => match Nat.beq l.length len with
          | true => some (l, [id], [])
          | false => none
        | none => none
      | false => none
    | _, _ => none
  | .own id => match H id with
    | some (.ints k' l) => match sameK k' k with
      | true => some (l, [id], [])
      | false => none
    | _ => none
  | .roi k' l => match sameK k' k with
    | true => some (l, [], [])
    | false => none
  | .raw (.slice none 0 0) => some ([], [], [])
  | .raw (.string s) => match sameK k .u8 with
    | true => some (s.data.toList.map fun b => ((b.toNat : Nat) : Int), [], [])
    | false => none
  | _ => none

/-- cells as rows of numbers -/
def rowsOf (ks : List IntKind) : (n : Nat) → List SV → Option (List (List Int))
  | 0, [] => some []
  | 0, _ => none
  | n + 1, cs => match numsAs ks (cs.take ks.length), rowsOf ks n (cs.drop ks.length) with
    | some r, some rs => some (r :: rs)
    | _, _ => none

def sliceRows (H : Nat → Option Body) (ks : List IntKind) (x : SV) : Option (List (List Int) × List Nat × List Prop) :=
  match x with
  | .sl id _ off sz j len known => match H id, Nat.beq sz ks.length with
    | some (.cells cs), true => match known, rowsOf ks len ((cs.drop (off * sz + j)).take (len * sz)) with
      | true, some l => some (l, [id], [])
      | _, _ => none
    | _, _ => none
  | .own id => match H id with
    | some (.rows ks' l) => match sameKs ks' ks with
      | true => some (l, [id], [])
      | false => none
    | _ => none
  | .raw (.slice none 0 0) => some ([], [], [])
  | _ => none

/-- a string that is told of whole -/
def isRawS (x : SV) : Bool :=
  match x with
  | .raw (.string _) => true
  | _ => false

/-- conversions that look at memory: bytes that a constant gave; bytes to a string -/
def convM (P : Program) (H : Nat → Option Body) (src dst : TypeId) (x : SV) : Option OpOut :=
  match P.underlying src, P.underlying dst with
  | some (.slice _), some (.slice e) => match (src == dst), P.underlying e, x with
    | true, some (.int .u8), .sl id m off sz j len true => match H id, Nat.blt 0 len, Nat.blt 0 sz with
      | some (.cells cs), true, true => match Nat.ble ((off + len) * sz + j) cs.length with
        | true => some { val := .sl id m off sz j len true, reads := [id] }
        | false => none
      | _, _, _ => none
    | _, _, _ => none
  | some (.slice e), some .string => match P.underlying e, isRawS x with
    | some (.int .u8), false => match sliceInts H .u8 x with
      | some (l, r, C) => some { val := .raw (.string ⟨(l.map fun n => UInt8.ofNat n.toNat).toArray⟩), reads := r, C }
      | none => none
    | _, _ => none
  | _, _ => none

/-- the bytes of an element -/
def bytesT (P : Program) (t : TypeId) : Nat := ((P.info? t).map (·.bytes)).getD 0

def isSrcT (P : Program) (xt : TypeId) : Bool :=
  match P.underlying xt with
  | some (.slice _) | some .string => true
  | _ => false

/-- what append is done to: nil, or a slice of its own -/
def baseInts (H : Nat → Option Body) (k : IntKind) (x : SV) : Option (List Int × List (Nat × Option Body) × List Nat) :=
  match x with
  | .raw (.slice none 0 0) => some ([], [], [])
  | .sl _ m off _ _ 0 true => match Nat.beq off m with
    | true => some ([], [], [])
    | false => none
  | .sl id m off sz j len true => match H id with
    | some (.cells cs) => match (Nat.beq off 0).and ((Nat.beq sz 1).and ((Nat.beq j 0).and ((Nat.beq len m).and ((Nat.blt 0 len).and (Nat.beq cs.length len))))), intsOf k cs with
      | true, some l => some (l, [(id, none)], [id])
      | _, _ => none
    | _ => none
  | .own id => match H id with
    | some (.ints k' l) => match sameK k' k with
      | true => some (l, [(id, none)], [id])
      | false => none
    | _ => none
  | _ => none

def baseRows (H : Nat → Option Body) (ks : List IntKind) (x : SV) : Option (List (List Int) × List (Nat × Option Body) × List Nat) :=
  match x with
  | .raw (.slice none 0 0) => some ([], [], [])
  | .sl _ m off _ _ 0 true => match Nat.beq off m with
    | true => some ([], [], [])
    | false => none
  | .own id => match H id with
    | some (.rows ks' l) => match sameKs ks' ks with
      | true => some (l, [(id, none)], [id])
      | false => none
    | _ => none
  | _ => none

/-- slices of constant numbers: their lists -/
def roisOf (q : Nat) (k : IntKind) : List SV → Option (List (List Int) × List Prop)
  | [] => some ([], [])
  | .roi k' l :: cs => match sameK k' k, roisOf q k cs with
    | true, some (r, C) => some (l :: r, (q = 0) :: C)
    | _, _ => none
  | .rob q' k' l :: cs => match sameK k' k, roisOf q k cs with
    | true, some (r, C) => some (l :: r, (q ≤ q') :: C)
    | _, _ => none
  | _ => none
def sliceLists (H : Nat → Option Body) (q : Nat) (k : IntKind) (x : SV) : Option (List (List Int) × List Nat × List Prop) :=
  match x with
  | .sl id _ off sz j len true => match H id, Nat.beq sz 1 with
    | some (.cells cs), true => match roisOf q k ((cs.drop (off + j)).take len) with
      | some (l, C) => match Nat.beq l.length len with
        | true => some (l, [id], C)
        | false => none
      | none => none
    | _, _ => none
  | _ => none
def baseLists (H : Nat → Option Body) (k : IntKind) (x : SV) : Option (Nat × List (List Int) × List (Nat × Option Body) × List Nat) :=
  match x with
  | .raw (.slice none 0 0) => some (0, [], [], [])
  | .own id => match H id with
    | some (.lists q k' l) => match sameK k' k with
      | true => some (q, l, [(id, none)], [id])
      | false => none
    | _ => none
  | _ => none
def appendL (P : Program) (H : Nat → Option Body) (nx : Nat) (e : TypeId) (z : SV) (x y : SV) : Option OpOut :=
  match P.underlying e with
  | some (.slice e2) => match kindsT P 2 e2 with
    | some [k] => match ((Nat.beq (cellsV z).length 1).and ((cellsV z).all oneCell)).and (Nat.beq (P.cellsOf e) 1), baseLists H k x with
      | true, some (q, l, u, r) => match sliceLists H q k y with
        | some (l', r', C) => some { val := .own nx, upd := u, new := [.lists q k (l ++ l')], reads := r ++ r', C := ((l ++ l').length * bytesT P e ≤ 2 ^ 47) :: C }
        | none => none
      | _, _ => none
    | _ => none
  | _ => none

/-- rows that only grow -/
def baseGrow (H : Nat → Option Body) (ks : List IntKind) (x : SV) : Option (List (List Int) × List (Nat × Option Body) × List Nat) :=
  match x with
  | .own id => match H id with
    | some (.grow ks' l) => match sameKs ks' ks with
      | true => some (l, [(id, none)], [id])
      | false => none
    | _ => none
  | _ => none
/-- a slice without room behind its end: what it is appended to stands -/
def baseFull (H : Nat → Option Body) (k : IntKind) (x : SV) : Option (List Int × List Nat × List Prop) :=
  match x with
  | .sl id m off sz j len true => match H id, (Nat.beq sz 1).and (Nat.beq j 0) with
    | some (.ints k' l), true => match sameK k' k with
      | true => some ((l.drop off).take len, [id], [m = off + len, off + len ≤ l.length])
      | false => none
    | _, _ => none
  | _ => none
def appendV (P : Program) (H : Nat → Option Body) (nx : Nat) (t xt : TypeId) (x y : SV) : Option OpOut :=
  match P.underlying t, isSrcT P xt with
  | some (.slice e), true => match kindsT P 8 e, Nat.blt 0 (bytesT P e), zeroV P e with
    | some [k], true, some z => match (Nat.beq (cellsV z).length 1).and ((cellsV z).all oneCell), baseFull H k x, sliceInts H k y with
      | true, some (l, r, D), some (l', r', C) => some { val := .own nx, new := [.ints k (l ++ l')], reads := r ++ r', C := ((l ++ l').length * bytesT P e ≤ 2 ^ 47) :: (0 < l'.length) :: (D ++ C) }
      | true, none, some (l', r', C) => match baseInts H k x with
        | some (l, u, r) => some { val := .own nx, upd := u, new := [.ints k (l ++ l')], reads := r ++ r', C := ((l ++ l').length * bytesT P e ≤ 2 ^ 47) :: C }
        | none => none
      | _, _, _ => none
    | some (k1 :: k2 :: ks), true, some z => match (Nat.beq (cellsV z).length (ks.length + 2)).and ((cellsV z).all oneCell), baseRows H (k1 :: k2 :: ks) x, sliceRows H (k1 :: k2 :: ks) y with
      | true, some (l, u, r), some (l', r', C) => some { val := .own nx, upd := u, new := [.rows (k1 :: k2 :: ks) (l ++ l')], reads := r ++ r', C := ((l ++ l').length * bytesT P e ≤ 2 ^ 47) :: C }
      | true, none, some (l', r', C) => match baseGrow H (k1 :: k2 :: ks) x with
        | some (l, u, r) => some { val := .own nx, upd := u, new := [.grow (k1 :: k2 :: ks) (l ++ l')], reads := r ++ r', C := ((l ++ l').length * bytesT P e ≤ 2 ^ 47) :: C }
        | none => none
      | _, _, _ => none
    | none, true, some z => appendL P H nx e z x y
    | _, _, _ => none
  | _, _ => none

/-- copy into numbers -/
def splice (l : List Int) (off : Nat) (src : List Int) : List Int := l.take off ++ src ++ l.drop (off + src.length)

/-- numbers of kind k over some of m cells (from cell j on) that begin at a symbolic one -/
def pokeAll (cs : List SV) (k : IntKind) (off j : Nat) (src : List Int) : (m e : Nat) → Option (List SV)
  | 0, _ => some cs
  | m + 1, e =>
    match pokeAll cs k off j src m (e + 1) with
    | none => none
    | some cs => match cs[j + e]? with
      | some c => match num c with
        | some (_, k', n') => match sameK k' k with
          | true => some (cs.set (j + e) (.int k (if off ≤ e ∧ e < off + src.length then src.getD (e - off) 0 else n')))
          | false => none
        | none => none
      | _ => none

/-- numbers of kind k laid over a chunk, from cell off + j on -/
def copyInto (bd : Body) (known : Bool) (m off j : Nat) (k : IntKind) (src : List Int) : Option (Body × List Prop) :=
  match bd, known with
  | .cells cs, true => match Nat.ble (off + j + src.length) cs.length with
    | true => some (.cells (cs.take (off + j) ++ src.map (fun v => SV.int k v) ++ cs.drop (off + j + src.length)), [])
    | false => none
  | .cells cs, false => match Nat.blt 0 m, pokeAll cs k off j src m 0 with
    | true, some cs => some (.cells cs, [off + src.length ≤ m])
    | _, _ => none
  | .ints k' d, _ => match sameK k' k with
    | true => some (.ints k (splice d (off + j) src), [off + j + src.length ≤ d.length])
    | false => none
  | _, _ => none

def posC (_ : Bool) (_ : Nat) : Option (List Prop) := some []

/-- a length is an int -/
def fitsC (known : Bool) (n : Nat) : List Prop :=
  match known.and (Nat.blt n 9223372036854775808) with
  | true => []
  | false => [Fits .i64 (n : Int)]

def lenKnown : SV → Bool
  | .sl _ _ _ _ _ _ known => known
  | .raw _ => true
  | _ => false

def copyV (P : Program) (H : Nat → Option Body) (t st : TypeId) (x y : SV) : Option OpOut :=
  match P.underlying t, isSrcT P st with
  | some (.slice e), true => match kindsT P 2 e, x with
    | some [k], .sl id m off sz j len known => match Nat.beq sz 1, sliceInts H k y, H id with
      | true, some (l, r, C), some bd => match copyInto bd (known.and (lenKnown y)) m off j k (l.take len) with
        | some (bd', D) => match posC known len with
          | some E => some { val := mkNum (known.and (lenKnown y)) .i64 ((min l.length len : Nat) : Int), upd := [(id, some bd')], reads := id :: r, C := E ++ (fitsC (known.and (lenKnown y)) (min l.length len) ++ (D ++ C)) }
          | none => none
        | none => none
      | _, _, _ => none
    | _, _ => none
  | _, _ => none

def clearV (P : Program) (H : Nat → Option Body) (t : TypeId) (x : SV) : Option OpOut :=
  match P.underlying t with
  | some (.slice e) => match kindsT P 2 e, zeroV P e, x with
    | some [_], _, .raw (.slice none 0 0) => pureOut (.raw (.tuple #[]))
    | some [k], some z, .sl id m off sz j len known => match H id, Nat.beq sz 1, num z with
      | some bd, true, some (_, k', 0) => match sameK k' k, copyInto bd known m off j k (List.replicate len 0) with
        | true, some (bd', D) => match posC known len with
          | some E => some { val := .raw (.tuple #[]), upd := [(id, some bd')], reads := [id], C := E ++ D }
          | none => none
        | _, _ => none
      | _, _, _ => none
    | _, _, _ => none
  | _ => none

def isZeroL : Bool → Int → Bool
  | true, .ofNat 0 => true
  | _, _ => false

def makeSliceV (P : Program) (nx : Nat) (t : TypeId) (ln cp : SV) : Option OpOut :=
  match P.underlying t with
  | some (.slice e) => match kindsT P 8 e, num ln, num cp, zeroV P e with
    | some ks, some (ll, k1, l), some (_, k2, c), some z => match (sameK k1 .i64).and ((sameK k2 .i64).and (((cellsV z).all oneCell).and (Nat.beq (cellsV z).length ks.length))) with
      | false => none
      | true => match isZeroL ll l, ks with
        | true, [k] => some { val := .own nx, new := [.ints k []], C := [0 ≤ c ∧ c.toNat * bytesT P e ≤ 2 ^ 47] }
        | true, ks => some { val := .own nx, new := [.rows ks []], C := [0 ≤ c ∧ c.toNat * bytesT P e ≤ 2 ^ 47] }
        | false, [k] => match num z with
          | some (_, k', 0) => match sameK k' k with
            | true => some { val := .sl nx l.toNat 0 1 0 l.toNat ll, new := [.ints k (List.replicate l.toNat 0)], C := [0 ≤ l ∧ l = c ∧ l.toNat * bytesT P e ≤ 2 ^ 47] }
            | false => none
          | _ => none
        | false, _ => none
    | _, _, _, _ => none
  | _ => none

def minmaxV (mx : Bool) (x y : SV) : Option OpOut :=
  match num x, num y with
  | some (lx, k, a), some (ly, k', b) => match decide (k = k') with
    | true => pureOut (mkNum (lx && ly) k (match mx with | true => if a < b then b else a | false => if b < a then b else a))
    | false => none
  | _, _ => none

/-- a summary of a function: place of new chunks, arguments, memory -/
abbrev Sum := Nat → List SV → (Nat → Option Body) → Option OpOut

structure Ctx where
  P : Program
  sum : FuncId → Option Sum
  glob : Nat → Option SV

def opnd (g : Ctx) (T : Nat → SV) : Operand → SV
  | .tmp t => T t
  | .const v => ofConst v
  | .global n => match g.glob n with | some v => .rop v | none => .any
  | .func f => .func f [] []

def nilCheckV (x : SV) : Option OpOut :=
  match x with
  | .ptr .. | .sptr .. | .rop _ | .func .. => pureOut x
  | _ => none

/-- an operation that calls no Go function -/
def opV (g : Ctx) (T : Nat → SV) (H : Nat → Option Body) (nx : Nat) (o : Op) : Option OpOut :=
  let v := opnd g T
  match o with
  | .move x | .assign x => pureOut (v x)
  | .pick c a b => match boolOf (v c) with
    | some (true, true) => pureOut (v a)
    | some (true, false) => pureOut (v b)
    | some (false, c) => match boolOf (v a), boolOf (v b) with
      | some (_, a), some (_, b) => pureOut (.sbool (bif c then a else b))
      | _, _ => none
    | none => none
  | .alloc e => match zeroV g.P e with
    | some z => boxV nx z
    | none => none
  | .box _ x => boxV nx (v x)
  | .build t parts => buildV g.P t (parts.toList.map fun p => (p.1, v p.2))
  | .buildSlice t len parts => buildSliceV g.P nx t len (parts.toList.map fun p => (p.1, v p.2))
  | .load t a => loadV g.P H t (v a)
  | .store t a x => storeV g.P H t (v a) (v x)
  | .nilCheck x => nilCheckV (v x)
  | .binOp op t x y _ => binV g.P op t ((isConstO x).or (isConstO y)) (v x) (v y)
  | .unOp op _ x => unV op (v x)
  | .convert s d x => match convV g.P s d (v x) with
    | some r => some r
    | none => convM g.P H s d (v x)
  | .sliceToArrayPointer t x => arrayPtrV g.P t (v x)
  | .makeFunc fn first cap => match fn with
    | .func f => pureOut (.func f (first.toList.map v) (cap.toList.map v))
    | _ => none
  | .makeSlice t l c => makeSliceV g.P nx t (v l) (v c)
  | .slice t x lo hi mx => sliceV g.P H t (v x) (lo.map v) (hi.map v) (mx.map v)
  | .fieldAddr t x f => fieldAddrV g.P t (v x) f
  | .field t x f => fieldV g.P t (v x) f
  | .indexAddr t x i => indexAddrV g.P H t (v x) (v i)
  | .index t x i => indexV g.P t (v x) (v i)
  | .extract x i => match v x with
    | .tuple vs => match vs[i]? with
      | some w => pureOut w
      | none => none
    | _ => none
  | .call c => match c.callee with
    | .builtin b => match b, c.args.toList, c.argTypes.toList with
      | .len, [x], [t] => match g.P.underlying t with
        | some (.array n _) => match Nat.blt n 9223372036854775808 with
          | true => pureOut (mkLit .i64 n)
          | false => none
        | some (.slice _) => match isRawS (v x), lenV g.P H (v x) with
          | false, some (k, n, r) => some { val := mkNum k .i64 n, reads := r, C := fitsC k n }
          | _, _ => none
        | some .string => match isRawS (v x), lenV g.P H (v x) with
          | true, some (k, n, r) => some { val := mkNum k .i64 n, reads := r, C := fitsC k n }
          | _, _ => none
        | _ => none
      | .append, [x, y], [t, xt] => appendV g.P H nx t xt (v x) (v y)
      | .copy, [x, y], [t, st] => copyV g.P H t st (v x) (v y)
      | .clear, [x], [t] => clearV g.P H t (v x)
      | .max, [x, y], _ => minmaxV true (v x) (v y)
      | .min, [x, y], _ => minmaxV false (v x) (v y)
      | _, _, _ => none
    | _ => none
  | _ => none

/-- the function that a call calls, and its arguments -/
def calleeV (g : Ctx) (T : Nat → SV) (o : Op) : Option (FuncId × List SV) :=
  match o with
  | .call c => match c.callee with
    | .value f => match opnd g T f with
      | .func f first cap => some (f, first ++ c.args.toList.map (opnd g T) ++ cap)
      | _ => none
    | _ => none
  | _ => none


def nthN : List Nat → Nat → Nat
  | [], _ => 0
  | x :: _, 0 => x
  | _ :: r, i + 1 => nthN r i

/-! ### chunks under other numbers -/
mutual
def mapC (f : Nat → Option Nat) : SV → SV
  | .ptr id off => match f id with | some j => .ptr j off | none => .any
  | .sptr id m i sz o => match f id with | some j => .sptr j m i sz o | none => .any
  | .sl id m off sz o len k => match f id with | some j => .sl j m off sz o len k | none => .any
  | .own id => match f id with | some j => .own j | none => .any
  | .agg cs => .agg (mapL f cs)
  | .tuple vs => .tuple (mapL f vs)
  | .func g a b => .func g (mapL f a) (mapL f b)
  | .any => .any
  | .bool b => .bool b
  | .sbool b => .sbool b
  | .lit k n => .lit k n
  | .int k n => .int k n
  | .raw v => .raw v
  | .ro sz n g => .ro sz n g
  | .roi k l => .roi k l
  | .rob q k l => .rob q k l
  | .rop v => .rop v
def mapL (f : Nat → Option Nat) : List SV → List SV
  | [] => []
  | c :: cs => mapC f c :: mapL f cs
end

def mapB (f : Nat → Option Nat) : Body → Body
  | .cells cs => .cells (mapL f cs)
  | .ints k l => .ints k l
  | .rows ks l => .rows ks l
  | .log l => .log l
  | .lists q k l => .lists q k l
  | .grow ks l => .grow ks l

def idxF (id : Nat) : List Nat → Nat → Option Nat
  | [], _ => none
  | x :: r, j => match Nat.beq x id with
    | true => some j
    | false => idxF id r (j + 1)
def idx (ids : List Nat) (id : Nat) : Option Nat := idxF id ids 0

def addId (id : Nat) (acc : List Nat) : List Nat := match idx acc id with | some _ => acc | none => acc ++ [id]


mutual
def refsC : SV → List Nat → List Nat
  | .ptr id _, acc => addId id acc
  | .sptr id _ _ _ _, acc => addId id acc
  | .sl id _ _ _ _ _ _, acc => addId id acc
  | .own id, acc => addId id acc
  | .agg cs, acc => refsL cs acc
  | .tuple cs, acc => refsL cs acc
  | .func _ a b, acc => refsL b (refsL a acc)
  | _, acc => acc
def refsL : List SV → List Nat → List Nat
  | [], acc => acc
  | c :: cs, acc => refsL cs (refsC c acc)
end
def refsB : Option Body → List Nat → List Nat
  | some (.cells cs), acc => refsL cs acc
  | _, acc => acc

def closeIds (H : Nat → Option Body) : Nat → List Nat → List Nat
  | 0, ids => ids
  | n + 1, ids => closeIds H n (ids.foldl (fun acc id => refsB (H id) acc) ids)

def gather (H : Nat → Option Body) : List Nat → Option (List Body)
  | [] => some []
  | id :: r => match H id, gather H r with
    | some b, some bs => some (b :: bs)
    | _, _ => none

def nodupB : List Nat → Bool
  | [] => true
  | x :: r => (match idx r x with | some _ => false | none => true).and (nodupB r)


mutual
def closedC (ids : List Nat) : SV → Bool
  | .ptr id _ => (idx ids id).isSome
  | .sptr id _ _ _ _ => (idx ids id).isSome
  | .sl id _ _ _ _ _ _ => (idx ids id).isSome
  | .own id => (idx ids id).isSome
  | .agg cs => closedL ids cs
  | .tuple cs => closedL ids cs
  | .func _ a b => (closedL ids a).and (closedL ids b)
  | _ => true
def closedL (ids : List Nat) : List SV → Bool
  | [] => true
  | c :: cs => (closedC ids c).and (closedL ids cs)
end
def closedB (ids : List Nat) : Body → Bool
  | .cells cs => closedL ids cs
  | _ => true

/-- a place of what is given, or a new one -/
def backS (ids : List Nat) (nx j : Nat) : Option Nat :=
  match ids[j]? with
  | some id => some id
  | none => some (nx + (j - ids.length))

/-- what a function answers, told of with the chunks under the numbers 0, 1, .. -/
abbrev SumF := List SV → List Body → Option OpOut

def mkSum (F : SumF) : Sum := fun nx args H =>
  let ids := closeIds H 3 (refsL args [])
  match gather H ids with
  | none => none
  | some B => match F (mapL (idx ids) args) (B.map (mapB (idx ids))) with
    | none => none
    | some r => match (nodupB ids).and ((B.all (closedB ids)).and (r.upd.all fun y => Nat.blt y.1 ids.length)) with
      | false => none
      | true => some { val := mapC (backS ids nx) r.val, upd := r.upd.map fun y => (nthN ids y.1, y.2.map (mapB (backS ids nx))), new := r.new.map (mapB (backS ids nx)), reads := ids, C := r.C }

/-! ### running -/
inductive Plan where
  | br (b : Bool)
  | fix (n : Int)
  | loop (key : Nat) (keep : List Nat) (m : Nat) (e : Ex) (G : List SV → List Body → Option (List (Nat × SV) × List Body × List Prop))

def setAll : List (Nat × Option Body) → Tr (Option Body) → Tr (Option Body)
  | [], t => t
  | x :: r, t => setAll r (t.set none x.1 x.2)

def addAll : List Body → Nat → Tr (Option Body) → Tr (Option Body)
  | [], _, t => t
  | b :: r, n, t => addAll r (n + 1) (t.set none n (some b))

def applyOut (H : Heap) (o : OpOut) : Heap :=
  match o.upd, o.new with
  | [], [] => H
  | u, n => ⟨addAll n H.nx (setAll u H.tr), forceN (H.nx + n.length) id⟩

def maskOf : List Nat → Nat
  | [] => 0
  | i :: r => Nat.lor (Nat.shiftLeft 1 i) (maskOf r)

def tmpsOf (o : Op) : List Nat := o.operands.toList.filterMap fun | .tmp t => some t | _ => none

def bindsAll (e : Edge) : Bool := match e.ground with | .textOnly _ | .gcOnly _ => false | _ => true

/-- an operation, prepared: what stands ahead of it, the slots it reads, the slot it writes, whether a guard looks at it, the slot of its own guard -/
structure Prep where
  o : Oper
  before : Nat
  rd : Nat
  wr : Nat
  isG : Bool
  guard : Option (Nat × Bool)

def closureOf (done : List Nat) (o : Oper) : Nat :=
  o.after.toList.foldr (fun e m => match bindsAll e with | true => Nat.lor (Nat.lor (Nat.shiftLeft 1 e.on) (nthN done e.on)) m | false => m) 0

def closures : List Oper → List Nat → List Nat
  | [], done => done
  | o :: r, done => forceN (closureOf done o) fun c => closures r (done ++ [c])

def guards (ops : List Oper) (i : Nat) : Bool := ops.any fun o => match o.guard with | some (j, _) => Nat.beq i j | none => false

def guardTmp (ops : List Oper) (o : Oper) : Option (Nat × Bool) :=
  match o.guard with
  | some (j, w) => (((ops[j]?).bind (·.dst))).map (·, w)
  | none => none

def prepAll (all : List Oper) (cl : List Nat) : List Oper → Nat → List Prep
  | [], _ => []
  | o :: r, i => ⟨o, nthN cl i, maskOf (tmpsOf o.op ++ ((guardTmp all o).map (·.1)).toList), maskOf o.dst.toList, guards all i, guardTmp all o⟩ :: prepAll all cl r (i + 1)

def prep (ops : List Oper) : List Prep := prepAll ops (closures ops []) ops 0

def bit (m i : Nat) : Bool := Nat.beq (Nat.land (Nat.shiftRight m i) 1) 1

def apartM (ar aw br bw : Nat) : Bool := (Nat.beq (Nat.land aw (Nat.lor br bw)) 0).and (Nat.beq (Nat.land bw ar) 0)

def tmpsAgainst (j : Prep) : List Prep → Nat → Bool
  | [], _ => true
  | i :: r, n => ((bit j.before n).or (apartM i.rd i.wr j.rd j.wr)).and (tmpsAgainst j r (n + 1))

def tmpsOk : List Prep → List Prep → Bool
  | _, [] => true
  | done, j :: r => (tmpsAgainst j done 0).and (tmpsOk (done ++ [j]) r)

/-- the slots are written in range, and guards look at slots -/
def shapeOk (nT : Nat) (ops : List Oper) : Bool :=
  ops.all fun o => (match o.dst with | some d => Nat.blt d nT | none => true) && (match o.guard with | some (j, _) => ((ops[j]?).bind (·.dst)).isSome | none => true)

/-- what binds an operation stands ahead of it -/
def edgesOk : List Oper → Nat → Bool
  | [], _ => true
  | o :: r, i => (o.after.toList.all fun e => (bindsAll e).not.or (Nat.blt e.on i)).and (edgesOk r (i + 1))

/-- the order's static part: closed, so the kernel reckons it once a region -/
def staticOk (ops : List Oper) : Bool := (tmpsOk [] (prep ops)).and (edgesOk ops 0)

/-- an operation that looks at memory; does it change it? -/
structure Rec where
  i : Nat
  before : Nat
  chg : Bool
  lc : Option (List Nat × List Nat)

def notIn (a : Nat) : List Nat → Bool
  | [] => true
  | x :: r => (Nat.beq a x).not.and (notIn a r)

def apartL : List Nat → List Nat → Bool
  | [], _ => true
  | a :: r, l => (notIn a l).and (apartL r l)
/-- what they write and read lies apart -/
def frOk (j i : Rec) : Bool :=
  match j.lc, i.lc with
  | some (w, r), some (w', r') => (apartL w w').and ((apartL w r').and (apartL w' r))
  | _, _ => false

def heapAgainst (j : Rec) : List Rec → Bool
  | [] => true
  | i :: r => (((bit j.before i.i).or (j.chg.or i.chg).not).or (frOk j i)).and (heapAgainst j r)

def heapOk : List Rec → Bool
  | [] => true
  | j :: r => (heapAgainst j r).and (heapOk r)

/-- operations that do not look at memory -/
def pureOp (P : Program) : Op → Bool
  | .convert _ d _ => match P.underlying d with | some (.int _) => true | _ => false
  | .move _ | .assign _ | .pick .. | .build .. | .nilCheck _ | .binOp .. | .unOp .. | .sliceToArrayPointer .. | .makeFunc .. | .fieldAddr .. | .field .. | .index .. | .extract .. => true
  | _ => false

/-- places are in range -/
def outOk (H : Heap) (x : OpOut) : Bool :=
  match x.upd, x.new with
  | [], [] => true
  | u, n => (u.all fun y => Nat.blt y.1 65535).and (Nat.blt (H.nx + n.length) 65535)

structure RunSt where
  T : Tmps
  H : Heap
  pl : List Plan
  C : List Prop
  recs : List Rec
  any : Bool    -- has memory been changed?

structure Out where
  e : Ex
  T : Tmps
  H : Heap
  pl : List Plan
  C : List Prop

/-- a symbolic bool that decides a guard is decided by the plan -/
def settle (isG : Bool) (v : SV) (pl : List Plan) : Option (SV × List Plan × List Prop) :=
  match isG, v with
  | true, .sbool b => match pl with
    | .br p :: pl => some (.bool p, pl, [b = p])
    | _ => none
  | _, v => some (v, pl, [])

/-- a number that a call answers is fixed by the plan -/
def settleF (isG : Bool) (v : SV) (pl : List Plan) : Option (SV × List Plan × List Prop) :=
  match v, pl with
  | .int k e, .fix n :: pl => some (.lit k n, pl, [e = n])
  | v, pl => settle isG v pl

/-- the result of a call by running its code -/
abbrev CallF := FuncId → List SV → Heap → List Plan → Option (SV × Heap × List Plan × List Prop)

def retV (P : Program) (H : Nat → Option Body) (T : Tmps) : List ResultVar → Option (List SV)
  | [] => some []
  | r :: rs => match r, retV P H T rs with
    | .tmp t, some vs => some (tget T t :: vs)
    | .cell a t, some vs => match loadV P H t (tget T a) with
      | some out => match out.C with
        | [] => some (out.val :: vs)
        | _ => none
      | none => none
    | _, _ => none

def wantedV (T : Tmps) (g : Option (Nat × Bool)) : Option Bool :=
  match g with
  | none => some true
  | some (d, want) => match tget T d with
    | .bool b => some (Bool.rec (Bool.not want) want b)
    | .raw (.tuple _) => some false
    | _ => none

def putT (T : Tmps) (d : Option Nat) (v : SV) : Tmps :=
  match d with
  | none => T
  | some d => T.set .any d v

def consC (a b c : List Prop) : List Prop :=
  match a, b with
  | [], [] => c
  | a, b => a ++ (b ++ c)

/-- force the list of what must hold -/
def forceC {α : Type} (C : List Prop) (f : List Prop → α) : α :=
  match C with
  | [] => f []
  | c :: r => f (c :: r)

def forceB {α : Type} (b : Bool) (f : Bool → α) : α := Bool.rec (f false) (f true) b

def isNil {α : Type} : List α → Bool
  | [] => true
  | _ => false

def chgOf (x : OpOut) : Bool := ((isNil x.upd).and (isNil x.new)).not

/-- new chunks, as updates -/
def newU : List Body → Nat → List (Nat × Option Body)
  | [], _ => []
  | b :: r, n => (n, some b) :: newU r (n + 1)
/-- what is written and read -/
def outLc (nx : Nat) (x : OpOut) : List (Nat × Option Body) × List Nat := (x.upd ++ newU x.new nx, x.reads)
def localOp : Op → Bool
  | .alloc _ | .box .. | .buildSlice .. | .load .. | .store .. | .slice .. | .indexAddr .. => true
  | _ => false
def opLc (o : Op) (nx : Nat) (x : OpOut) : Option (List (Nat × Option Body) × List Nat) := match localOp o with | true => some (outLc nx x) | false => none
def idsU : List (Nat × Option Body) → List Nat
  | [] => []
  | x :: r => x.1 :: idsU r
def idsLc (o : Option (List (Nat × Option Body) × List Nat)) : Option (List Nat × List Nat) := match o with | some (w, r) => some (idsU w, r) | none => none

def recsOf (p : Bool) (r : Rec) (l : List Rec) : List Rec :=
  match p.and r.chg.not with
  | true => l
  | false => r :: l

def runOps (g : Ctx) (call : CallF) (l : List Prep) : Nat → RunSt → Option RunSt :=
  List.rec (motive := fun _ => Nat → RunSt → Option RunSt) (fun _ s => some s) (fun p _ ih i s =>
    match wantedV s.T p.guard with
    | none => none
    | some false => ih (i + 1) ⟨putT s.T p.o.dst (.raw undef), s.H, s.pl, s.C, s.recs, s.any⟩
    | some true =>
      match calleeV g (tget s.T) p.o.op with
      | some (f, args) => match g.sum f with
        | some σ => match σ s.H.nx args (hget s.H) with
          | none => none
          | some x => match outOk s.H x, settleF p.isG x.val s.pl with
            | true, some (v, pl, D) => forceC (consC x.C D s.C) fun C => forceB (chgOf x) fun chg =>
              ih (i + 1) ⟨putT s.T p.o.dst v, applyOut s.H x, pl, C, ⟨i, p.before, chg, idsLc (some (outLc s.H.nx x))⟩ :: s.recs, chg.or s.any⟩
            | _, _ => none
        | none => match call f args s.H s.pl with
          | none => none
          | some (v, H, pl, E) => match settle p.isG v pl with
            | none => none
            | some (v, pl, D) => forceC (consC E D s.C) fun C => ih (i + 1) ⟨putT s.T p.o.dst v, H, pl, C, ⟨i, p.before, true, none⟩ :: s.recs, true⟩
      | none => match opV g (tget s.T) (hget s.H) s.H.nx p.o.op with
        | none => none
        | some x => match outOk s.H x, settle p.isG x.val s.pl with
          | true, some (v, pl, D) => forceC (consC x.C D s.C) fun C => forceB (chgOf x) fun chg =>
            ih (i + 1) ⟨putT s.T p.o.dst v, applyOut s.H x, pl, C,
              recsOf (pureOp g.P p.o.op) ⟨i, p.before, chg, idsLc (opLc p.o.op s.H.nx x)⟩ s.recs, chg.or s.any⟩
          | _, _ => none) l

/-- slots out of a list -/
def mkT : List (Nat × SV) → Tmps
  | [] => .lf
  | x :: r => (mkT r).set .any x.1 x.2

def mkHeap (l : List (Nat × Body)) (nx : Nat) : Heap := ⟨l.foldr (fun x t => t.set none x.1 (some x.2)) .lf, nx⟩

/-- forget all but some slots -/
def keepT (keep : List Nat) (T : Tmps) : Tmps := mkT (keep.map fun i => (i, tget T i))

def entryT : List SV → Nat → Tmps
  | [], _ => .lf
  | a :: r, i => (entryT r (i + 1)).set .any i a

/-- a loop's name: the number of its first region -/
def firstRegion : Code → Nat
  | .region id _ _ => id
  | .seq a _ => firstRegion a
  | .block _ c => firstRegion c
  | .loop c => firstRegion c
  | .scope c => firstRegion c
  | _ => 0

/-- what a loop does: the slots that it looks at and the chunks (under 0, 1, ..); the slots then, the chunks then; of these the first m are what they were -/
abbrev LoopF := List SV → List Body → Option (List (Nat × SV) × List Body × List Prop)
abbrev SimT := Nat → Code → List Nat → Nat → Ex → LoopF → Prop

def backL (ids : List Nat) (m nx j : Nat) : Option Nat :=
  match Nat.blt j m with
  | true => ids[j]?
  | false => some (nx + (j - m))

def loopUpd : List Nat → Nat → List Body → List (Nat × Option Body)
  | [], _, _ => []
  | id :: r, m + 1, b :: bs => (id, some b) :: loopUpd r m bs
  | id :: r, _, _ => (id, none) :: loopUpd r 0 []

def applyLoop (keep : List Nat) (m : Nat) (G : LoopF) (T : Tmps) (H : Heap) : Option (Tmps × Heap × List Prop) :=
  let vals := keep.map (tget T)
  let ids := closeIds (hget H) 3 (refsL vals [])
  match gather (hget H) ids with
  | none => none
  | some B => match G (mapL (idx ids) vals) (B.map (mapB (idx ids))) with
    | none => none
    | some (S', B', C) =>
      let x : OpOut := { val := .any, upd := loopUpd ids m (B'.map (mapB (backL ids m H.nx))), new := (B'.map (mapB (backL ids m H.nx))).drop m }
      match (Nat.ble m ids.length).and ((Nat.ble m B'.length).and ((nodupB ids).and ((S'.all fun y => Nat.blt y.1 65535).and ((keep.all fun k => Nat.blt k 65535).and (outOk H x))))) with
      | true => some (mkT (S'.map fun y => (y.1, mapC (backL ids m H.nx) y.2)), applyOut H x, C)
      | false => none

def fewTmps (n : Nat) : Bool := Nat.blt n 65535

/-- a call by running the function's code -/
def callOf (g : Ctx) (E : Nat → List Plan → Code → Tmps → Heap → Option Out) : CallF := fun f args H pl =>
  match g.P.funcs[f]? with
  | some fn => match fn.body, fewTmps fn.ntmps, Nat.ble args.length fn.ntmps with
    | some c, true, true => match E fn.ntmps pl c (entryT args 0) H with
      | some ⟨.exit _, _, _, _, _⟩ => none
      | some ⟨_, T, H, pl, C⟩ => match retV g.P (hget H) T fn.results.toList with
        | some [v] => some (v, H, pl, C)
        | some vs => some (.tuple vs, H, pl, C)
        | none => none
      | none => none
    | _, _, _ => none
  | none => none

def exec (g : Ctx) (sim : SimT) : Nat → Nat → List Plan → Code → Tmps → Heap → Option Out
  | 0, _, _, _, _, _ => none
  | n + 1, nT, pl, c, T, H =>
    match c with
    | .skip => some ⟨.normal, T, H, pl, []⟩
    | .label _ => some ⟨.normal, T, H, pl, []⟩
    | .seq x y => match exec g sim n nT pl x T H with
      | some ⟨.normal, T, H, pl, C⟩ => match exec g sim n nT pl y T H with
        | some o => some ⟨o.e, o.T, o.H, o.pl, C ++ o.C⟩
        | none => none
      | r => r
    | .block id c => match exec g sim n nT pl c T H with
      | some ⟨.exit i, T, H, pl, C⟩ => match Nat.beq i id with
        | true => some ⟨.normal, T, H, pl, C⟩
        | false => some ⟨.exit i, T, H, pl, C⟩
      | r => r
    | .exit id => some ⟨.exit id, T, H, pl, []⟩
    | .ret => some ⟨.ret, T, H, pl, []⟩
    | .cond c x y => match boolOf (opnd g (tget T) c) with
      | some (true, true) => exec g sim n nT pl x T H
      | some (true, false) => exec g sim n nT pl y T H
      | some (false, b) => match pl with
        | .br true :: pl => match exec g sim n nT pl x T H with
          | some o => some ⟨o.e, o.T, o.H, o.pl, (b = true) :: o.C⟩
          | none => none
        | .br false :: pl => match exec g sim n nT pl y T H with
          | some o => some ⟨o.e, o.T, o.H, o.pl, (b = false) :: o.C⟩
          | none => none
        | _ => none
      | none => none
    | .loop c =>
      let unroll := fun (_ : Unit) => match exec g sim n nT pl c T H with
        | some ⟨.normal, T, H, pl, C⟩ => match exec g sim n nT pl (.loop c) T H with
          | some o => some ⟨o.e, o.T, o.H, o.pl, C ++ o.C⟩
          | none => none
        | r => r
      match pl with
      | .loop key keep m e G :: pl => match Nat.beq key (firstRegion c) with
        | true => match applyLoop keep m G T H with
          | some (T', H', C) => some ⟨e, T', H', pl, sim nT (.loop c) keep m e G :: C⟩
          | none => none
        | false => unroll ()
      | _ => unroll ()
    | .region _ ops draw =>
      let call : CallF := callOf g (exec g sim n)
      match shapeOk nT ops.toList with
      | false => none
      | true => match runOps g call (prep ops.toList) 0 ⟨T, H, pl, [], [], false⟩ with
        | some s => match draw, s.any with
          | false, _ => some ⟨.normal, s.T, s.H, s.pl, s.C⟩
          | true, false => match staticOk ops.toList with
            | true => some ⟨.normal, s.T, s.H, s.pl, s.C⟩
            | false => none
          | true, true => match (staticOk ops.toList).and (heapOk s.recs) with
            | true => some ⟨.normal, s.T, s.H, s.pl, s.C⟩
            | false => none
        | none => none
    | _ => none

/-- a function from its entry on; of memory the chunks that are named -/
def runFn (g : Ctx) (sim : SimT) (n : Nat) (pl : List Plan) (f : FuncId) (args : List SV) (H : Heap) (ids : List Nat) : Option (SV × List (Option Body) × List Prop) :=
  match callOf g (exec g sim n) f args H pl with
  | some (v, H, _, C) => some (v, ids.map (hget H), C)
  | none => none

end
end Go.Vx

/- What symbolic values and memory stand for, and that the operations keep it. -/
namespace Go.Vx

/-- where a chunk lies, or (of a slice of its own) its value -/
inductive Hd where
  | at (b base : Nat)
  | sl (loc : Option (Nat × Nat)) (len cap : Nat)

abbrev Rho := Nat → Option Hd

def Hd.loc : Hd → Option (Nat × Nat)
  | .at b base => some (b, base)
  | .sl l _ _ => l

def adr (b o : Nat) : Addr := ⟨b, o, none⟩

def isAggV : Value → Bool
  | .agg _ => true
  | _ => false

/-- what a call may write of what was there, and what stands as it did -/
structure Own where
  own : Nat → Nat → Prop
  mem : Nat → Nat → Value → Prop
  lent : Nat → Nat → Prop

/-- memory that stands as it did -/
def MemAt (w0 : World) (O : Own) (b o : Nat) (us : List Value) : Prop :=
  ∀ j v, us[j]? = some v → O.mem b (o + j) v

mutual
def DenC (w0 : World) (O : Own) (ρ : Rho) : SV → List Value → Prop
  | .any, _ => True
  | .bool b, vs => vs = [.bool b]
  | .sbool b, vs => vs = [.bool b]
  | .lit k n, vs => vs = [.int k n] ∧ Fits k n
  | .int k n, vs => vs = [.int k n] ∧ Fits k n
  | .raw x, vs => vs = [x] ∧ isAggV x = false
  | .ptr id off, vs => ∃ h b base, ρ id = some h ∧ h.loc = some (b, base) ∧ vs = [.pointer (some (adr b (base + off)))]
  | .sptr id _ i sz j, vs => ∃ h b base, ρ id = some h ∧ h.loc = some (b, base) ∧ vs = [.pointer (some (adr b (base + (i * sz + j))))]
  | .sl id m off sz j len kn, vs => ∃ a cap, vs = [.slice a len cap] ∧ len ≤ cap ∧ ((kn = true → off + cap ≤ m) ∧ (a = none ∨ ∃ b o, a = some (adr b o))) ∧ (0 < len → ∃ h b base, ρ id = some h ∧ h.loc = some (b, base) ∧ a = some (adr b (base + (off * sz + j))))
  | .own id, vs => ∃ l len cap, ρ id = some (.sl l len cap) ∧ vs = [.slice (l.map fun x => adr x.1 x.2) len cap]
  | .ro sz n f, vs => ∃ a cap, vs = [.slice a n cap] ∧ n ≤ cap ∧ (0 < n → ∃ b o, a = some (adr b o) ∧ ∀ i, i < n → ∃ us : List Value, us.length = sz ∧ MemAt w0 O b (o + i * sz) us ∧ DenC w0 O (fun _ => none) (f i) us)
  | .roi k l, vs => ∃ a cap, vs = [.slice a l.length cap] ∧ l.length ≤ cap ∧ (0 < l.length → ∃ b o, a = some (adr b o) ∧ MemAt w0 O b o (l.map (Value.int k))) ∧ ∀ n, n ∈ l → Fits k n
  | .rob q k l, vs => ∃ a cap, vs = [.slice a l.length cap] ∧ l.length ≤ cap ∧ (0 < l.length → ∃ b o, a = some (adr b o) ∧ q ≤ b ∧ MemAt w0 O b o (l.map (Value.int k))) ∧ ∀ n, n ∈ l → Fits k n
  | .rop v, vs => ∃ b o us, vs = [.pointer (some (adr b o))] ∧ MemAt w0 O b o us ∧ DenC w0 O (fun _ => none) v us
  | .agg cs, vs => DenL w0 O ρ cs vs
  | .tuple ws, vs => ∃ arr, vs = [.tuple arr] ∧ DenT w0 O ρ ws arr.toList
  | .func f first cap, vs => ∃ a c, vs = [.func (.func f) a c] ∧ DenT w0 O ρ first a.toList ∧ DenT w0 O ρ cap c.toList
def DenL (w0 : World) (O : Own) (ρ : Rho) : List SV → List Value → Prop
  | [], vs => vs = []
  | c :: cs, vs => ∃ v r, vs = v :: r ∧ DenC w0 O ρ c [v] ∧ isAggV v = false ∧ DenL w0 O ρ cs r
def DenT (w0 : World) (O : Own) (ρ : Rho) : List SV → List Value → Prop
  | [], vs => vs = []
  | c :: cs, vs => ∃ v r, vs = v :: r ∧ (c = .any ∨ (isAggS c = isAggV v ∧ DenC w0 O ρ c v.cells.toList)) ∧ DenT w0 O ρ cs r
end


/-- a value of a slot -/
def DenV (w0 : World) (O : Own) (ρ : Rho) (c : SV) (v : Value) : Prop :=
  c = .any ∨ (isAggS c = isAggV v ∧ DenC w0 O ρ c v.cells.toList)

def Ext (ρ ρ' : Rho) : Prop := ∀ id h, ρ id = some h → ρ' id = some h

theorem ext_none (ρ : Rho) : Ext (fun _ => none) ρ := fun _ _ h => by simp at h
theorem Ext.refl (ρ : Rho) : Ext ρ ρ := fun _ _ h => h
theorem Ext.trans {a b c : Rho} (h : Ext a b) (h' : Ext b c) : Ext a c := fun _ _ x => h' _ _ (h _ _ x)

section mono
variable {w0 : World} {O : Own} {ρ ρ' : Rho}
mutual
theorem DenC.mono (h : Ext ρ ρ') : ∀ (c : SV) (vs : List Value), DenC w0 O ρ c vs → DenC w0 O ρ' c vs
  | .any, _, _ => by simp [DenC]
  | .bool _, _, x => by simpa [DenC] using x
  | .sbool _, _, x => by simpa [DenC] using x
  | .lit _ _, _, x => by simpa [DenC] using x
  | .int _ _, _, x => by simpa [DenC] using x
  | .raw _, _, x => by simpa [DenC] using x
  | .ptr id off, _, x => by
    simp only [DenC] at x ⊢
    obtain ⟨hd, b, base, h1, h2, h3⟩ := x
    exact ⟨hd, b, base, h _ _ h1, h2, h3⟩
  | .sptr id m i sz j, _, x => by
    simp only [DenC] at x ⊢
    obtain ⟨hd, b, base, h1, h2, h3⟩ := x
    exact ⟨hd, b, base, h _ _ h1, h2, h3⟩
  | .sl id m off sz j len k, _, x => by
    simp only [DenC] at x ⊢
    obtain ⟨a, cap, h1, h2, h4, h3⟩ := x
    exact ⟨a, cap, h1, h2, h4, fun hl => let ⟨hd, b, base, g1, g2, g3⟩ := h3 hl; ⟨hd, b, base, h _ _ g1, g2, g3⟩⟩
  | .own id, _, x => by
    simp only [DenC] at x ⊢
    obtain ⟨l, len, cap, h1, h2⟩ := x
    exact ⟨l, len, cap, h _ _ h1, h2⟩
  | .ro sz n f, _, x => by simpa only [DenC] using x
  | .roi k l, _, x => by simpa [DenC] using x
  | .rob q k l, _, x => by simpa only [DenC] using x
  | .rop v, _, x => by simpa only [DenC] using x
  | .agg cs, vs, x => by
    simp only [DenC] at x ⊢
    exact DenL.mono h cs vs x
  | .tuple ws, _, x => by
    simp only [DenC] at x ⊢
    obtain ⟨arr, h1, h2⟩ := x
    exact ⟨arr, h1, DenT.mono h ws _ h2⟩
  | .func f first cap, _, x => by
    simp only [DenC] at x ⊢
    obtain ⟨a, c, h1, h2, h3⟩ := x
    exact ⟨a, c, h1, DenT.mono h first _ h2, DenT.mono h cap _ h3⟩
theorem DenL.mono (h : Ext ρ ρ') : ∀ (cs : List SV) (vs : List Value), DenL w0 O ρ cs vs → DenL w0 O ρ' cs vs
  | [], _, x => by simpa [DenL] using x
  | c :: cs, vs, x => by
    simp only [DenL] at x ⊢
    obtain ⟨v, r, h1, h2, h3, h4⟩ := x
    exact ⟨v, r, h1, DenC.mono h c _ h2, h3, DenL.mono h cs r h4⟩
theorem DenT.mono (h : Ext ρ ρ') : ∀ (cs : List SV) (vs : List Value), DenT w0 O ρ cs vs → DenT w0 O ρ' cs vs
  | [], _, x => by simpa [DenT] using x
  | c :: cs, vs, x => by
    simp only [DenT] at x ⊢
    obtain ⟨v, r, h1, h2, h4⟩ := x
    exact ⟨v, r, h1, h2.imp id (fun y => ⟨y.1, DenC.mono h c _ y.2⟩), DenT.mono h cs r h4⟩
end
theorem DenV.mono (h : Ext ρ ρ') {c : SV} {v : Value} (x : DenV w0 O ρ c v) : DenV w0 O ρ' c v :=
  x.imp id (fun y => ⟨y.1, DenC.mono h c _ y.2⟩)
end mono

/-! ### lists of cells -/
theorem DenL.length {w0 : World} {O : Own} {ρ : Rho} : ∀ {cs : List SV} {vs : List Value}, DenL w0 O ρ cs vs → vs.length = cs.length
  | [], _, h => by simp [DenL] at h; simp [h]
  | c :: cs, _, h => by
    simp only [DenL] at h
    obtain ⟨v, r, rfl, _, _, h4⟩ := h
    simp [DenL.length h4]

theorem DenL.get {w0 : World} {O : Own} {ρ : Rho} : ∀ {cs : List SV} {vs : List Value}, DenL w0 O ρ cs vs →
    ∀ (j : Nat) (c : SV), cs[j]? = some c → ∃ v, vs[j]? = some v ∧ DenC w0 O ρ c [v] ∧ isAggV v = false
  | [], _, _, j, c, hc => by simp at hc
  | c :: cs, _, h, j, c', hc => by
    simp only [DenL] at h
    obtain ⟨v, r, rfl, h2, h3, h4⟩ := h
    cases j with
    | zero => simp at hc; subst hc; exact ⟨v, by simp, h2, h3⟩
    | succ j => simp at hc; obtain ⟨v', g1, g2⟩ := DenL.get h4 j c' hc; exact ⟨v', by simpa using g1, g2⟩

theorem DenL.mk {w0 : World} {O : Own} {ρ : Rho} : ∀ {cs : List SV} {vs : List Value}, vs.length = cs.length →
    (∀ (j : Nat) (c : SV), cs[j]? = some c → ∃ v, vs[j]? = some v ∧ DenC w0 O ρ c [v] ∧ isAggV v = false) → DenL w0 O ρ cs vs
  | [], vs, hl, _ => by simp [DenL]; simpa using hl
  | c :: cs, vs, hl, h => by
    cases vs with
    | nil => simp at hl
    | cons v r =>
      simp only [DenL]
      obtain ⟨v', g1, g2, g3⟩ := h 0 c (by simp)
      simp at g1; subst g1
      exact ⟨v, r, rfl, g2, g3, DenL.mk (by simpa using hl) fun j c' hc => by
        have := h (j + 1) c' (by simpa using hc)
        simpa using this⟩

/-! ### the frame -/
/-- nothing that lies in the block is frozen -/
def quiet (fr : Nat × Nat) (n : Nat) : Prop := fr.1 = fr.2 ∨ n ≤ fr.1

def Kept (S : Nat → Prop) : Option Obj → Option Obj → Prop
  | some (.cells c t fr), o' => ∃ c' fr', o' = some (.cells c' t fr') ∧ c'.size = c.size ∧ (∀ j, ¬ S j → c'[j]? = c[j]?) ∧ ((∀ j, ¬ S j) → fr' = fr) ∧ ∀ j, S j → quiet fr c.size ∧ quiet fr' c.size
  | o, o' => o' = o

def QuietO (o : Option Obj) : Prop := ∀ c t fr, o = some (.cells c t fr) → quiet fr c.size

theorem Kept.refl (S : Nat → Prop) (o : Option Obj) (h : ∀ j, S j → QuietO o) : Kept S o o := by
  cases o with
  | none => simp [Kept]
  | some o =>
    cases o
    case cells c t fr => exact ⟨c, fr, rfl, rfl, fun _ _ => rfl, fun _ => rfl, fun j hj => ⟨h j hj _ _ _ rfl, h j hj _ _ _ rfl⟩⟩
    all_goals simp [Kept]

structure Frame (w0 : World) (O : Own) (w : World) : Prop where
  os : w.os = w0.os
  tape : w.tape = w0.tape
  output : w.output = w0.output
  size : w0.heap.size ≤ w.heap.size
  block : ∀ k, k < w0.heap.size → Kept (O.own k) w0.heap[k]? w.heap[k]?
  mem : ∀ b o v, O.mem b o v → w0.cell? (adr b o) = some v ∧ ¬ O.own b o
  calm : ∀ k, w0.heap.size ≤ k → QuietO w.heap[k]?

theorem Frame.refl (w : World) (O : Own) (h : ∀ b o, b < w.heap.size → O.own b o → QuietO w.heap[b]?) (hm : ∀ b o v, O.mem b o v → w.cell? (adr b o) = some v ∧ ¬ O.own b o) : Frame w O w :=
  ⟨rfl, rfl, rfl, Nat.le_refl _, fun k hk => Kept.refl _ _ fun j hj => h k j hk hj, hm, fun k hk c t fr e => by rw [Array.getElem?_eq_none hk] at e; simp at e⟩

theorem Kept.comp {S S1 : Nat → Prop} {a b c : Option Obj} (h : Kept S a b) (h' : Kept S1 b c) (hs : ∀ j, S1 j → S j) : Kept S a c := by
  cases a with
  | none => simp only [Kept] at h; subst h; simpa [Kept] using h'
  | some o =>
    cases o
    case cells cs t fr =>
      obtain ⟨c', f1, rfl, e2, e3, e4, e5⟩ := h
      obtain ⟨c'', f2, rfl, g2, g3, g4, g5⟩ := h'
      refine ⟨c'', f2, rfl, by omega, fun j hj => by rw [g3 j (fun h => hj (hs j h)), e3 j hj], fun hn => by rw [g4 fun j hj => hn j (hs j hj), e4 hn], fun j hj => ⟨(e5 j hj).1, ?_⟩⟩
      by_cases hx : ∃ i, S1 i
      · obtain ⟨i, hi⟩ := hx
        have := (g5 i hi).2
        rwa [e2] at this
      · rw [g4 fun i hi => hx ⟨i, hi⟩]
        exact (e5 j hj).2
    all_goals (simp only [Kept] at h; subst h; simpa [Kept] using h')

theorem Kept.trans {S : Nat → Prop} {a b c : Option Obj} (h : Kept S a b) (h' : Kept S b c) : Kept S a c := h.comp h' fun _ h => h

section frame
variable {w0 : World} {O : Own} {w : World}

theorem Frame.alloc (h : Frame w0 O w) (o : Obj) (hq : QuietO (some o)) : Frame w0 O (w.alloc o) :=
  ⟨h.os, h.tape, h.output, by simp; have := h.size; omega, fun k hk => by
    have e : (w.alloc o).heap[k]? = w.heap[k]? := by
      have := Nat.lt_of_lt_of_le hk h.size
      show (w.heap.push o)[k]? = w.heap[k]?
      simp [Array.getElem?_push, Nat.ne_of_lt this]
    rw [e]; exact h.block k hk, h.mem, fun k hk => by
    have e : (w.alloc o).heap[k]? = if k = w.heap.size then some o else w.heap[k]? := by
      show (w.heap.push o)[k]? = _
      rw [Array.getElem?_push]
    rw [e]; split
    · exact hq
    · exact h.calm k hk⟩

theorem Frame.heapEq (h : Frame w0 O w) {w' : World} (h1 : w'.heap = w.heap) (h2 : w'.os = w.os) (h3 : w'.tape = w.tape) (h4 : w'.output = w.output) : Frame w0 O w' :=
  ⟨h2.trans h.os, h3.trans h.tape, h4.trans h.output, by rw [h1]; exact h.size, fun k hk => by rw [h1]; exact h.block k hk, h.mem, fun k hk => by rw [h1]; exact h.calm k hk⟩

theorem heap_setCell (w : World) (b o k : Nat) (v : Value) :
    (w.setCell (adr b o) v).heap[k]? = if k = b then (w.heap[k]?).map (fun | .cells c e fr => .cells (c.setIfInBounds o v) e fr | o => o) else w.heap[k]? := by
  simp only [World.setCell, adr, Array.getElem?_modify]
  by_cases h : b = k
  · subst h; simp
    congr 1
  · rw [if_neg h, if_neg (fun e => h e.symm)]

theorem Frame.setCell (h : Frame w0 O w) {b o : Nat} (v : Value) (hO : b < w0.heap.size → O.own b o) : Frame w0 O (w.setCell (adr b o) v) := by
  refine ⟨h.os, h.tape, h.output, by simpa using h.size, fun k hk => ?_, h.mem, fun k hk => ?_⟩
  · rw [heap_setCell]
    by_cases hkb : k = b
    · subst hkb
      rw [if_pos rfl]
      have hkk := h.block k hk
      have hq : QuietO w.heap[k]? := by
        intro c t fr e
        rw [e] at hkk
        cases hw0 : w0.heap[k]? with
        | none => rw [hw0] at hkk; simp [Kept] at hkk
        | some ob =>
          rw [hw0] at hkk
          cases ob
          case cells c0 t0 f0 =>
            obtain ⟨c', f', e1, e2, _, _, e5⟩ := hkk
            simp only [Option.some.injEq, Obj.cells.injEq] at e1
            obtain ⟨rfl, _, rfl⟩ := e1
            rw [e2]; exact (e5 o (hO hk)).2
          all_goals simp [Kept] at hkk
      refine Kept.trans hkk ?_
      cases hw : w.heap[k]? with
      | none => simp [Kept]
      | some ob =>
        cases ob
        case cells c t fr =>
          refine ⟨c.setIfInBounds o v, fr, rfl, by simp, fun j hj => ?_, fun _ => rfl, fun j _ => ⟨hq _ _ _ hw, hq _ _ _ hw⟩⟩
          exact Array.getElem?_setIfInBounds_ne (by rintro rfl; exact hj (hO hk))
        all_goals simp [Kept]
    · rw [if_neg hkb]; exact h.block k hk
  · rw [heap_setCell]
    split
    · intro c t fr e
      cases hw : w.heap[k]? with
      | none => rw [hw] at e; simp at e
      | some ob =>
        rw [hw] at e
        cases ob
        case cells c1 t1 f1 =>
          simp only [Option.map_some, Option.some.injEq, Obj.cells.injEq] at e
          obtain ⟨rfl, _, rfl⟩ := e
          have := h.calm k hk _ _ _ hw
          simpa using this
        all_goals simp at e
    · exact h.calm k hk

theorem Frame.cell (h : Frame w0 O w) {b o : Nat} {v : Value} (hc : w0.cell? (adr b o) = some v) (hO : ¬ O.own b o) : w.cell? (adr b o) = some v := by
  have hlt : b < w0.heap.size := World.block_lt_of_cell? w0 (adr b o) hc
  have hk := h.block b hlt
  simp only [World.cell?, adr] at hc ⊢
  cases hb : w0.heap[b]? with
  | none => simp [hb] at hc
  | some ob =>
    rw [hb] at hk hc
    cases ob <;> simp at hc
    obtain ⟨c', f', e, _, h3, _⟩ := hk
    rw [e]
    simp [h3 o hO, hc]

theorem frozen_quiet {w : World} {b o : Nat} {v : Value} (hc : w.cell? (adr b o) = some v) (hq : QuietO w.heap[b]?) : w.frozen? (adr b o) = false := by
  unfold World.cell? at hc
  unfold World.frozen?
  show (match w.heap[b]? with | some (.cells _ _ (lo, hi)) => decide (lo ≤ o) && decide (o < hi) | _ => false) = false
  have hc : (match w.heap[b]? with | some (.cells c _ _) => c[o]? | _ => none) = some v := hc
  cases hb : w.heap[b]? with
  | none => rfl
  | some ob =>
    rw [hb] at hc
    cases ob
    case cells c t fr =>
      obtain ⟨lo, hi⟩ := fr
      have h1 : lo = hi ∨ c.size ≤ lo := hq _ _ _ hb
      have h2 : o < c.size := by
        rcases Nat.lt_or_ge o c.size with h | h
        · exact h
        · have hc : c[o]? = some v := hc
          rw [Array.getElem?_eq_none h] at hc; simp at hc
      show (decide (lo ≤ o) && decide (o < hi)) = false
      rw [Bool.and_eq_false_iff]
      simp only [decide_eq_false_iff_not]
      omega
    all_goals rfl

/-- a cell that lies in a block is as much frozen as it was -/
theorem Frame.frozen (h : Frame w0 O w) {b : Nat} (hb : b < w0.heap.size) {o : Nat} {v v' : Value} (hc : w0.cell? (adr b o) = some v) (hc' : w.cell? (adr b o) = some v') : w.frozen? (adr b o) = w0.frozen? (adr b o) := by
  have hk := h.block b hb
  cases hw0 : w0.heap[b]? with
  | none => simp [World.cell?, adr, hw0] at hc
  | some ob =>
    rw [hw0] at hk
    cases ob
    case cells c t fr =>
      obtain ⟨c', f', e, h2, h3, h4, h5⟩ := hk
      by_cases hx : ∃ i, O.own b i
      · obtain ⟨i, hi⟩ := hx
        have q := h5 i hi
        have q1 : QuietO w0.heap[b]? := fun c1 t1 f1 e1 => by rw [hw0] at e1; simp only [Option.some.injEq, Obj.cells.injEq] at e1; obtain ⟨rfl, _, rfl⟩ := e1; exact q.1
        have q2 : QuietO w.heap[b]? := fun c1 t1 f1 e1 => by rw [e] at e1; simp only [Option.some.injEq, Obj.cells.injEq] at e1; obtain ⟨rfl, _, rfl⟩ := e1; rw [h2]; exact q.2
        rw [frozen_quiet hc q1, frozen_quiet hc' q2]
      · have := h4 fun i hi => hx ⟨i, hi⟩
        subst this
        simp only [World.frozen?, adr, hw0, e]
    all_goals simp [World.cell?, adr, hw0] at hc

theorem MemAt.now (h : Frame w0 O w) {b o : Nat} {us : List Value} (hm : MemAt w0 O b o us) (j : Nat) (v : Value) (hj : us[j]? = some v) : w.cell? (adr b (o + j)) = some v :=
  h.cell (h.mem _ _ _ (hm j v hj)).1 (h.mem _ _ _ (hm j v hj)).2
end frame

/-! ### chunks -/
def cellsOf : Body → List SV
  | .cells cs => cs
  | .ints k l => l.map (.int k)
  | .rows ks l => (l.map fun r => List.zipWith SV.int ks r).flatten
  | .log _ => []
  | .lists q k l => l.map (.rob q k)
  | .grow ks l => (l.map fun r => List.zipWith SV.int ks r).flatten

def esz : Body → Nat
  | .rows ks _ => ks.length
  | .grow ks _ => ks.length
  | _ => 1

def bodyOk : Body → Prop
  | .rows ks l => ∀ r ∈ l, r.length = ks.length
  | .grow ks l => ∀ r ∈ l, r.length = ks.length
  | _ => True

def CellsAt (w0 : World) (O : Own) (ρ : Rho) (w : World) (b base : Nat) (cs : List SV) : Prop :=
  ∀ j c, cs[j]? = some c → ∃ v, w.cell? (adr b (base + j)) = some v ∧ DenC w0 O ρ c [v] ∧ isAggV v = false ∧ w.frozen? (adr b (base + j)) = false

abbrev Foot := Nat → Nat → Prop

def Rng (F : Foot) (b base n : Nat) : Prop := ∀ b' o, F b' o ↔ (b' = b ∧ base ≤ o ∧ o < base + n)

def OwnAt (w0 : World) (O : Own) (ρ : Rho) (w : World) (bd : Body) (loc : Option (Nat × Nat)) (len cap : Nat) (F : Foot) : Prop :=
  len = ecount bd ∧ len ≤ cap ∧ bodyOk bd ∧
  match loc with
  | none => cap = 0 ∧ ∀ b o, ¬ F b o
  | some (b, base) => Rng F b base (cap * esz bd) ∧ CellsAt w0 O ρ w b base (cellsOf bd) ∧
      ∀ j, j < cap * esz bd → (∃ v, w.cell? (adr b (base + j)) = some v) ∧ w.frozen? (adr b (base + j)) = false

def slV (loc : Option (Nat × Nat)) (len cap : Nat) : Value := .slice (loc.map fun x => adr x.1 x.2) len cap

def LogAt (w0 : World) (O : Own) (ρ : Rho) (w : World) (l : List (List Int)) (b base : Nat) (F : Foot) : Prop :=
  ∃ loc len cap F1, w.cell? (adr b base) = some (.int .i64 l.length) ∧ w.frozen? (adr b base) = false ∧
    w.cell? (adr b (base + 1)) = some (slV loc len cap) ∧ w.frozen? (adr b (base + 1)) = false ∧ Fits .i64 l.length ∧
    OwnAt w0 O ρ w (.rows [.i64, .i64] l) loc len cap F1 ∧ (∀ o, F1 b o → o ≠ base ∧ o ≠ base + 1) ∧
    ∀ b' o, F b' o ↔ ((b' = b ∧ (o = base ∨ o = base + 1)) ∨ F1 b' o)

/-- the first cells of an array -/
def preF (loc : Option (Nat × Nat)) (n : Nat) : Foot := fun b o => ∃ base, loc = some (b, base) ∧ base ≤ o ∧ o < base + n
/-- rows the first of which stand from now on -/
def GrowAt (w0 : World) (O : Own) (ρ : Rho) (w : World) (ks : List IntKind) (l : List (List Int)) (loc : Option (Nat × Nat)) (len cap : Nat) (F : Foot) : Prop :=
  ∃ c F0, c ≤ l.length ∧ OwnAt w0 O ρ w (.grow ks l) loc len cap F0 ∧ (∀ b o, F b o ↔ F0 b o ∧ ¬ preF loc (c * ks.length) b o) ∧ ∀ b o, preF loc (c * ks.length) b o → O.lent b o ∧ ∃ v, O.mem b o v

def Holds (w0 : World) (O : Own) (ρ : Rho) (w : World) (bd : Body) (hd : Hd) (F : Foot) : Prop :=
  match bd, hd with
  | .log l, .at b base => LogAt w0 O ρ w l b base F
  | .log _, .sl _ _ _ => False
  | .cells _, .sl _ _ _ => False
  | .grow _ _, .at _ _ => False
  | .grow ks l, .sl loc len cap => GrowAt w0 O ρ w ks l loc len cap F
  | bd, .at b base => bodyOk bd ∧ Rng F b base (cellsOf bd).length ∧ CellsAt w0 O ρ w b base (cellsOf bd)
  | bd, .sl loc len cap => OwnAt w0 O ρ w bd loc len cap F

structure RelH (w0 : World) (O : Own) (ρ : Rho) (H : Nat → Option Body) (w : World) (Φ : Nat → Foot) : Prop where
  frame : Frame w0 O w
  holds : ∀ id bd, H id = some bd → ∃ hd, ρ id = some hd ∧ Holds w0 O ρ w bd hd (Φ id)
  disj : ∀ id id' b o, id ≠ id' → H id ≠ none → H id' ≠ none → Φ id b o → Φ id' b o → False
  mine : ∀ id b o, H id ≠ none → Φ id b o → b < w.heap.size ∧ (b < w0.heap.size → O.own b o)

section
variable {w0 : World} {O : Own} {ρ ρ' : Rho} {w w' : World}

theorem CellsAt.mono (h : Ext ρ ρ') {b base : Nat} {cs : List SV} (x : CellsAt w0 O ρ w b base cs) : CellsAt w0 O ρ' w b base cs :=
  fun j c hc => let ⟨v, g1, g2, g3⟩ := x j c hc; ⟨v, g1, DenC.mono h c _ g2, g3⟩

theorem OwnAt.mono (h : Ext ρ ρ') {bd : Body} {loc : Option (Nat × Nat)} {len cap : Nat} {F : Foot} (x : OwnAt w0 O ρ w bd loc len cap F) : OwnAt w0 O ρ' w bd loc len cap F := by
  obtain ⟨h1, h2, h3, h4⟩ := x
  refine ⟨h1, h2, h3, ?_⟩
  cases loc with
  | none => exact h4
  | some p => exact ⟨h4.1, h4.2.1.mono h, h4.2.2⟩

theorem Holds.mono (h : Ext ρ ρ') {bd : Body} {hd : Hd} {F : Foot} (x : Holds w0 O ρ w bd hd F) : Holds w0 O ρ' w bd hd F := by
  cases bd <;> cases hd <;> simp only [Holds] at x ⊢
  case log.at l b base =>
    obtain ⟨loc, len, cap, F1, h1, h2, h3, h4, h5, h6, h7⟩ := x
    exact ⟨loc, len, cap, F1, h1, h2, h3, h4, h5, h6.mono h, h7⟩
  case grow.sl =>
    obtain ⟨c, F0, h1, h2, h3⟩ := x
    exact ⟨c, F0, h1, h2.mono h, h3⟩
  all_goals first
    | exact ⟨x.1, x.2.1, x.2.2.mono h⟩
    | exact x.mono h

/-- the cells of a footprint stand as they did -/
def Same (F : Foot) (w w' : World) : Prop := ∀ b o, F b o → w'.cell? (adr b o) = w.cell? (adr b o) ∧ w'.frozen? (adr b o) = w.frozen? (adr b o)

theorem CellsAt.same {b base : Nat} {cs : List SV} (x : CellsAt w0 O ρ w b base cs)
    (h : ∀ j, j < cs.length → w'.cell? (adr b (base + j)) = w.cell? (adr b (base + j)) ∧ w'.frozen? (adr b (base + j)) = w.frozen? (adr b (base + j))) : CellsAt w0 O ρ w' b base cs := by
  intro j c hc
  obtain ⟨v, g1, g2, g3, g4⟩ := x j c hc
  have hj : j < cs.length := (List.getElem?_eq_some_iff.1 hc).1
  exact ⟨v, (h j hj).1.trans g1, g2, g3, (h j hj).2.trans g4⟩

theorem flat_len : ∀ (l : List (List SV)) (n : Nat), (∀ r ∈ l, r.length = n) → l.flatten.length = l.length * n
  | [], n, _ => by simp
  | r :: l, n, h => by
    have h1 := h r (by simp)
    have h2 := flat_len l n fun r hr => h r (by simp [hr])
    simp only [List.flatten_cons, List.length_append, h1, h2, List.length_cons]
    rw [Nat.succ_mul]; omega

theorem cells_length {bd : Body} (h : bodyOk bd) (hl : ∀ l, bd ≠ .log l) : (cellsOf bd).length = ecount bd * esz bd := by
  cases bd with
  | cells cs => simp [cellsOf, ecount, esz]
  | ints k l => simp [cellsOf, ecount, esz]
  | lists q k l => simp [cellsOf, ecount, esz]
  | rows ks l =>
    simp only [cellsOf, ecount, esz]
    rw [flat_len _ ks.length]
    · simp
    · intro r hr
      obtain ⟨r', h1, rfl⟩ := List.mem_map.1 hr
      simp [h r' h1]
  | grow ks l =>
    simp only [cellsOf, ecount, esz]
    rw [flat_len _ ks.length]
    · simp
    · intro r hr
      obtain ⟨r', h1, rfl⟩ := List.mem_map.1 hr
      simp [h r' h1]
  | log l => exact absurd rfl (hl l)

theorem OwnAt.same {bd : Body} {loc : Option (Nat × Nat)} {len cap : Nat} {F : Foot} (x : OwnAt w0 O ρ w bd loc len cap F) (h : Same F w w') (hl : ∀ l, bd ≠ .log l) : OwnAt w0 O ρ w' bd loc len cap F := by
  obtain ⟨h1, h2, h3, h4⟩ := x
  refine ⟨h1, h2, h3, ?_⟩
  cases loc with
  | none => exact h4
  | some p =>
    obtain ⟨g1, g2, g3⟩ := h4
    have hle : (cellsOf bd).length ≤ cap * esz bd := by rw [cells_length h3 hl, ← h1]; exact Nat.mul_le_mul_right _ h2
    refine ⟨g1, g2.same fun j hj => h _ _ ((g1 _ _).2 ⟨rfl, by omega, by omega⟩), fun j hj => ?_⟩
    have hs := h _ _ ((g1 p.1 (p.2 + j)).2 ⟨rfl, by omega, by omega⟩)
    rw [hs.1, hs.2]; exact g3 j hj

theorem Holds.same {bd : Body} {hd : Hd} {F : Foot} (x : Holds w0 O ρ w bd hd F) (h : Same F w w') (hm : ∀ b o v, O.mem b o v → w'.cell? (adr b o) = w.cell? (adr b o) ∧ w'.frozen? (adr b o) = w.frozen? (adr b o)) : Holds w0 O ρ w' bd hd F := by
  cases bd <;> cases hd <;> simp only [Holds] at x ⊢
  case log.at l b base =>
    obtain ⟨loc, len, cap, F1, h1, h2, h3, h4, h5, h6, h7, h8⟩ := x
    have s1 := h b base ((h8 _ _).2 (.inl ⟨rfl, .inl rfl⟩))
    have s2 := h b (base + 1) ((h8 _ _).2 (.inl ⟨rfl, .inr rfl⟩))
    exact ⟨loc, len, cap, F1, s1.1.trans h1, s1.2.trans h2, s2.1.trans h3, s2.2.trans h4, h5,
      h6.same (fun b o hf => h b o ((h8 _ _).2 (.inr hf))) (by intro l; simp), h7, h8⟩
  case grow.sl ks l loc len cap =>
    obtain ⟨c, F0, h1, h2, h3, h4⟩ := x
    refine ⟨c, F0, h1, h2.same (fun b o hf => ?_) (by intro l; simp), h3, h4⟩
    by_cases hp : preF loc (c * ks.length) b o
    · obtain ⟨_, v, hv⟩ := h4 b o hp
      exact hm b o v hv
    · exact h b o ((h3 b o).2 ⟨hf, hp⟩)
  all_goals first
    | exact ⟨x.1, x.2.1, x.2.2.same fun j hj => h _ _ ((x.2.1 _ _).2 ⟨rfl, by omega, by omega⟩)⟩
    | exact x.same h (by intro l; simp)

theorem RelH.mono {H : Nat → Option Body} {Φ : Nat → Foot} (x : RelH w0 O ρ H w Φ) (h : Ext ρ ρ') : RelH w0 O ρ' H w Φ :=
  ⟨x.frame, fun id bd hb => let ⟨hd, g1, g2⟩ := x.holds id bd hb; ⟨hd, h _ _ g1, g2.mono h⟩, x.disj, x.mine⟩

theorem OwnAt.holds {bd : Body} {loc : Option (Nat × Nat)} {len cap : Nat} {F : Foot} (h : OwnAt w0 O ρ w bd loc len cap F) (hl : ∀ l, bd ≠ .log l) (hc : ∀ cs, bd ≠ .cells cs) : Holds w0 O ρ w bd (.sl loc len cap) F := by
  cases bd
  case log l => exact absurd rfl (hl l)
  case cells cs => exact absurd rfl (hc cs)
  case grow ks l =>
    refine ⟨0, F, Nat.zero_le _, h, fun b o => ?_, fun b o hp => ?_⟩
    · constructor
      · exact fun hF => ⟨hF, fun ⟨_, _, _, _⟩ => by omega⟩
      · exact fun hF => hF.1
    · obtain ⟨base, e1, e2, e3⟩ := hp
      omega
  all_goals exact h
theorem Frame.memSame (h : Frame w0 O w) (h' : Frame w0 O w') {b o : Nat} {v : Value} (hv : O.mem b o v) : w'.cell? (adr b o) = w.cell? (adr b o) ∧ w'.frozen? (adr b o) = w.frozen? (adr b o) := by
  obtain ⟨m1, m2⟩ := h.mem b o v hv
  have hlt : b < w0.heap.size := World.block_lt_of_cell? w0 (adr b o) m1
  have e1 := h.cell m1 m2
  have e2 := h'.cell m1 m2
  exact ⟨e2.trans e1.symm, (h'.frozen hlt m1 e2).trans (h.frozen hlt m1 e1).symm⟩
/-- nothing that is told has turned -/
theorem RelH.move {H : Nat → Option Body} {Φ : Nat → Foot} (x : RelH w0 O ρ H w Φ) (hf : Frame w0 O w') (hs : w.heap.size ≤ w'.heap.size)
    (h : ∀ id, H id ≠ none → Same (Φ id) w w') : RelH w0 O ρ H w' Φ :=
  ⟨hf, fun id bd hb => let ⟨hd, g1, g2⟩ := x.holds id bd hb; ⟨hd, g1, g2.same (h id (by simp [hb])) fun b o v hv => x.frame.memSame hf hv⟩, x.disj,
    fun id b o hn hF => ⟨Nat.lt_of_lt_of_le (x.mine id b o hn hF).1 hs, (x.mine id b o hn hF).2⟩⟩

theorem RelH.heapEq {H : Nat → Option Body} {Φ : Nat → Foot} (x : RelH w0 O ρ H w Φ) (h1 : w'.heap = w.heap) (h2 : w'.os = w.os) (h3 : w'.tape = w.tape) (h4 : w'.output = w.output) : RelH w0 O ρ H w' Φ :=
  x.move (x.frame.heapEq h1 h2 h3 h4) (by rw [h1]; exact Nat.le_refl _) fun id _ b o _ => by simp [World.cell?, World.frozen?, h1]

theorem cell_alloc (w : World) (o : Obj) {b : Nat} (hb : b < w.heap.size) (i : Nat) : (w.alloc o).cell? (adr b i) = w.cell? (adr b i) :=
  World.cell?_alloc_lt w o (adr b i) hb
theorem frozen_alloc (w : World) (o : Obj) {b : Nat} (hb : b < w.heap.size) (i : Nat) : (w.alloc o).frozen? (adr b i) = w.frozen? (adr b i) :=
  World.frozen?_alloc_old w o (adr b i) (Nat.ne_of_lt hb)

/-- new memory that nobody tells of -/
theorem quiet_cells (c : Array Value) (t : TypeId) : QuietO (some (.cells c t)) := fun c1 t1 f1 e => by
  simp only [Option.some.injEq, Obj.cells.injEq] at e; obtain ⟨_, _, rfl⟩ := e; exact .inl rfl

theorem RelH.alloc {H : Nat → Option Body} {Φ : Nat → Foot} (x : RelH w0 O ρ H w Φ) (c : Array Value) (t : TypeId) : RelH w0 O ρ H (w.alloc (.cells c t)) Φ :=
  x.move (x.frame.alloc _ (quiet_cells c t)) (by simp) fun id hn b o hF =>
    ⟨cell_alloc _ _ (x.mine id b o hn hF).1 _, frozen_alloc _ _ (x.mine id b o hn hF).1 _⟩

def upH (H : Nat → Option Body) (id : Nat) (b : Option Body) : Nat → Option Body := fun i => if i = id then b else H i
def upR (ρ : Rho) (id : Nat) (h : Hd) : Rho := fun i => if i = id then some h else ρ i
def upF (Φ : Nat → Foot) (id : Nat) (F : Foot) : Nat → Foot := fun i => if i = id then F else Φ i

theorem Ext.up {id : Nat} (hn : ρ id = none) (h : Hd) : Ext ρ (upR ρ id h) := fun i x hx => by
  unfold upR; split
  · subst_vars; simp [hn] at hx
  · exact hx

/-- one chunk is forgotten -/
theorem RelH.drop {H : Nat → Option Body} {Φ : Nat → Foot} (x : RelH w0 O ρ H w Φ) (id : Nat) : RelH w0 O ρ (upH H id none) w Φ := by
  have hne : ∀ i, upH H id none i ≠ none → H i ≠ none := fun i hi => by unfold upH at hi; split at hi <;> simp_all
  refine ⟨x.frame, fun i bd hb => ?_, fun i i' b o hi h1 h2 => x.disj i i' b o hi (hne _ h1) (hne _ h2), fun i b o h1 => x.mine i b o (hne _ h1)⟩
  unfold upH at hb; split at hb
  · simp at hb
  · exact x.holds i bd hb

/-- a chunk is put in (new, or over the one that stood there) -/
theorem RelH.put {H : Nat → Option Body} {Φ : Nat → Foot} (x : RelH w0 O ρ H w Φ) {id : Nat} {bd : Body} {hd : Hd} {F : Foot}
    (hr : ρ id = some hd) (hh : Holds w0 O ρ w bd hd F)
    (hdj : ∀ i b o, i ≠ id → H i ≠ none → Φ i b o → F b o → False)
    (hm : ∀ b o, F b o → b < w.heap.size ∧ (b < w0.heap.size → O.own b o)) : RelH w0 O ρ (upH H id (some bd)) w (upF Φ id F) := by
  refine ⟨x.frame, fun i b hb => ?_, fun i i' b o hi h1 h2 g1 g2 => ?_, fun i b o h1 g1 => ?_⟩
  · unfold upH at hb; unfold upF; split at hb
    · subst_vars; simp at hb; subst hb; simp; exact ⟨hd, hr, hh⟩
    · rename_i hne; simp [hne]; exact x.holds i b hb
  · unfold upH at h1 h2; unfold upF at g1 g2
    split at h1 <;> split at h2
    · subst_vars; exact hi rfl
    · rename_i e1 e2; simp [e1] at g1; simp [e2] at g2; exact hdj i' b o e2 h2 g2 g1
    · rename_i e1 e2; simp [e1] at g1; simp [e2] at g2; exact hdj i b o e1 h1 g1 g2
    · rename_i e1 e2; simp [e1] at g1; simp [e2] at g2; exact x.disj i i' b o hi h1 h2 g1 g2
  · unfold upH at h1; unfold upF at g1
    split at h1
    · rename_i e; simp [e] at g1; exact hm b o g1
    · rename_i e; simp [e] at g1; exact x.mine i b o h1 g1

/-- new memory, told of -/
theorem RelH.new {H : Nat → Option Body} {Φ : Nat → Foot} (x : RelH w0 O ρ H w Φ) {id : Nat} (hn : ρ id = none) {bd : Body} (hb : bodyOk bd) (hl : ∀ l, bd ≠ .log l)
    {vs : Array Value} (hv : DenL w0 O ρ (cellsOf bd) vs.toList) (ty : TypeId) (hg : ∀ ks l, bd ≠ .grow ks l := by intro ks l; simp) :
    RelH w0 O (upR ρ id (.at w.heap.size 0)) (upH H id (some bd)) (w.alloc (.cells vs ty)) (upF Φ id fun b o => b = w.heap.size ∧ 0 ≤ o ∧ o < 0 + (cellsOf bd).length) := by
  have x' := (x.alloc vs ty).mono (Ext.up hn (.at w.heap.size 0))
  refine x'.put (hd := .at w.heap.size 0) (by simp [upR]) ?_ ?_ ?_
  · have hc : CellsAt w0 O (upR ρ id (.at w.heap.size 0)) (w.alloc (.cells vs ty)) w.heap.size 0 (cellsOf bd) := by
      intro j c hc
      obtain ⟨v, h1, h2, h3⟩ := hv.get j c hc
      have h1' : vs[j]? = some v := by simpa using h1
      refine ⟨v, ?_, DenC.mono (Ext.up hn _) _ _ h2, h3, ?_⟩
      · simp only [Nat.zero_add, adr]; rw [World.cell?_alloc_new]; exact h1'
      · simp only [Nat.zero_add, adr]; rw [World.frozen?_alloc_new]
    cases bd
    case log l => exact absurd rfl (hl l)
    case grow ks l => exact absurd rfl (hg ks l)
    all_goals exact ⟨hb, fun _ _ => Iff.rfl, hc⟩
  · rintro i b o hi hne hF ⟨rfl, _⟩
    exact absurd (x.mine i _ o hne hF).1 (Nat.lt_irrefl _)
  · rintro b o ⟨rfl, _⟩
    exact ⟨by simp, fun h => absurd (Nat.lt_of_lt_of_le h x.frame.size) (Nat.lt_irrefl _)⟩
end

end Go.Vx

/- Reading and writing of chunks. -/
namespace Go.Vx

def AllC (C : List Prop) : Prop := ∀ p, p ∈ C → p

theorem AllC.append {C D : List Prop} (h : AllC (C ++ D)) : AllC C ∧ AllC D :=
  ⟨fun p hp => h p (List.mem_append_left _ hp), fun p hp => h p (List.mem_append_right _ hp)⟩
theorem AllC.cons {p : Prop} {D : List Prop} (h : AllC (p :: D)) : p ∧ AllC D :=
  ⟨h p (by simp), fun q hq => h q (by simp [hq])⟩
theorem AllC.one {p : Prop} (h : AllC [p]) : p := h p (by simp)

def Loc.off : Loc → Nat
  | .at off => off
  | .sym _ i sz j => i * sz + j

theorem flat_get : ∀ (L : List (List SV)) (n i j : Nat), (∀ r ∈ L, r.length = n) → j < n → L.flatten[i * n + j]? = (L[i]?).bind (·[j]?)
  | [], n, i, j, _, _ => by simp
  | r :: L, n, i, j, h, hj => by
    have hr := h r (by simp)
    cases i with
    | zero => simp only [List.flatten_cons, Nat.zero_mul, Nat.zero_add, List.getElem?_cons_zero, Option.bind_some]; exact List.getElem?_append_left (by omega)
    | succ i =>
      have e : (i + 1) * n + j = r.length + (i * n + j) := by rw [hr, Nat.succ_mul]; omega
      rw [List.flatten_cons, e, List.getElem?_append_right (by omega)]
      simp only [Nat.add_sub_cancel_left, List.getElem?_cons_succ]
      exact flat_get L n i j (fun r hr => h r (by simp [hr])) hj

theorem getD_get {α : Type} {l : List α} {i : Nat} (h : i < l.length) (d : α) : l[i]? = some (l.getD i d) := by
  simp [List.getD, h]

theorem num_spec {c : SV} {l : Bool} {k : IntKind} {n : Int} (h : num c = some (l, k, n)) : c = .lit k n ∨ c = .int k n := by
  cases c <;> simp [num] at h
  · obtain ⟨_, rfl, rfl⟩ := h; exact .inl rfl
  · obtain ⟨_, rfl, rfl⟩ := h; exact .inr rfl

theorem num_den {w0 : World} {O : Own} {ρ : Rho} {c : SV} {l : Bool} {k : IntKind} {n : Int} (h : num c = some (l, k, n)) (vs : List Value) :
    DenC w0 O ρ c vs ↔ (vs = [.int k n] ∧ Fits k n) := by
  rcases num_spec h with rfl | rfl <;> simp [DenC]

theorem mapM_get {α β : Type} (f : α → Option β) : ∀ (l : List α) (r : List β), l.mapM f = some r → r.length = l.length ∧ ∀ (i : Nat) (a : α), l[i]? = some a → ∃ b, f a = some b ∧ r[i]? = some b
  | [], r, h => by simp at h; subst h; simp
  | a :: l, r, h => by
    simp only [List.mapM_cons] at h
    cases h1 : f a with
    | none => simp [h1] at h
    | some b =>
      cases h2 : l.mapM f with
      | none => simp [h1, h2] at h
      | some rs =>
        simp [h1, h2] at h; subst h
        obtain ⟨g1, g2⟩ := mapM_get f l rs h2
        refine ⟨by simp [g1], fun i a' ha => ?_⟩
        cases i with
        | zero => simp at ha; subst ha; exact ⟨b, h1, by simp⟩
        | succ i => simp at ha; obtain ⟨b', e1, e2⟩ := g2 i a' ha; exact ⟨b', e1, by simpa using e2⟩

theorem pick_spec {cs : List SV} {m i sz j : Nat} {c : SV} (h : pick cs m i sz j = some c) (hi : i < m) :
    ∃ c0 l k n, cs[j + i * sz]? = some c0 ∧ num c0 = some (l, k, n) ∧ c = .int k n := by
  unfold pick at h
  split at h
  · rename_i l k n r hm
    split at h
    · rename_i hall
      simp only [Option.some.injEq] at h
      obtain ⟨hlen, hget⟩ := mapM_get _ _ _ hm
      simp only [List.length_range] at hlen
      obtain ⟨b, e1, e2⟩ := hget i i (by simp [hi])
      cases hc : cs[j + i * sz]? with
      | none => simp [hc] at e1
      | some c0 =>
        simp [hc] at e1
        obtain ⟨l', k', n'⟩ := b
        refine ⟨c0, l', k', n', rfl, e1, ?_⟩
        have hk : k' = k := by
          cases i with
          | zero => simp at e2; exact e2.2.1.symm
          | succ i =>
            simp at e2
            have := List.all_eq_true.1 hall _ (List.mem_of_getElem? e2)
            simpa using this
        subst hk
        rw [← h]
        congr 1
        have : (((l, k', n) :: r).map (·.2.2))[i]? = some n' := by rw [List.getElem?_map, e2]; rfl
        rw [List.getD, this]; rfl
    · simp at h
  · simp at h

section
variable {w0 : World} {O : Own} {ρ : Rho} {w : World}

/-- a cell that is read is one of the chunk's -/
theorem readOne_cell0 {bd : Body} {p : Loc} {t : Nat} {c : SV} {C : List Prop} (h : readOne bd p t = some (c, C)) (hC : AllC C) (hb : bodyOk bd) (hng : ∀ ks l, bd ≠ .grow ks l) :
    (∀ l, bd ≠ .log l) ∧ ∃ c0, (cellsOf bd)[p.off + t]? = some c0 ∧ ∀ vs, DenC w0 O ρ c0 vs → DenC w0 O ρ c vs := by
  cases bd with
  | log l => simp [readOne] at h
  | lists q k l => simp [readOne] at h
  | grow ks l => exact absurd rfl (hng ks l)
  | cells cs =>
    refine ⟨by intro l; simp, ?_⟩
    cases p with
    | «at» off =>
      simp only [readOne] at h
      split at h
      · rename_i v hv; simp at h; obtain ⟨rfl, _⟩ := h; exact ⟨v, hv, fun _ x => x⟩
      · simp at h
    | sym m i sz j =>
      simp only [readOne] at h
      split at h
      · rename_i v hv
        simp at h; obtain ⟨rfl, rfl⟩ := h
        obtain ⟨c0, l, k, n, e1, e2, rfl⟩ := pick_spec hv hC.one
        refine ⟨c0, ?_, fun vs hx => ?_⟩
        · simp only [Loc.off, cellsOf]; rw [← e1]; congr 1; omega
        · rw [num_den e2] at hx; simp [DenC, hx]
      · simp at h
  | ints k l =>
    refine ⟨by intro l; simp, ?_⟩
    cases p with
    | «at» off =>
      simp [readOne] at h; obtain ⟨rfl, rfl⟩ := h
      have hl := hC.one
      exact ⟨_, by simp only [Loc.off, cellsOf, List.getElem?_map, getD_get hl 0]; rfl, fun _ x => by simpa [List.getD] using x⟩
    | sym m i sz j =>
      simp only [readOne] at h
      split at h
      · rename_i hz
        have hz : sz = 1 := by simpa using hz
        subst hz
        simp at h; obtain ⟨rfl, rfl⟩ := h
        have hl := hC.one
        refine ⟨.int k (l.getD (i + (j + t)) 0), ?_, fun _ x => by simpa [List.getD] using x⟩
        simp only [Loc.off, cellsOf, List.getElem?_map]
        rw [show i * 1 + j + t = i + (j + t) by omega, getD_get hl 0]; rfl
      · simp at h
  | rows ks l =>
    refine ⟨by intro l; simp, ?_⟩
    have key : ∀ i j, j < ks.length → i < l.length → (cellsOf (.rows ks l))[i * ks.length + j]? = some (.int (ks.getD j .u8) ((l.getD i []).getD j 0)) := by
      intro i j hj hi
      simp only [cellsOf]
      rw [flat_get _ ks.length i j _ hj, List.getElem?_map, getD_get hi []]
      · have hr : (l.getD i []).length = ks.length := hb _ (by rw [List.getD]; simp [hi])
        simp only [Option.map_some, Option.bind_some]
        rw [List.getElem?_zipWith, getD_get hj .u8, getD_get (l := l.getD i []) (by omega) 0]
      · intro r hr
        obtain ⟨r', h1, rfl⟩ := List.mem_map.1 hr
        simp [hb r' h1]
    have rc : ∀ i j v, rowCell ks l i j = some v → j < ks.length ∧ v = .int (ks.getD j .u8) ((l.getD i []).getD j 0) := by
      intro i j v hv
      unfold rowCell at hv
      split at hv
      · rename_i k hk
        simp at hv
        have hj := (List.getElem?_eq_some_iff.1 hk).1
        refine ⟨hj, ?_⟩
        rw [List.getD, hk, ← hv]; simp [List.getD]
      · simp at hv
    cases p with
    | «at» off =>
      simp only [readOne] at h
      split at h
      · rename_i v hv
        simp at h; obtain ⟨rfl, rfl⟩ := h
        obtain ⟨hj, rfl⟩ := rc _ _ _ hv
        refine ⟨_, ?_, fun _ x => x⟩
        rw [← key _ _ hj hC.one]
        congr 1
        simp only [Loc.off]
        rw [Nat.mul_comm]; exact (Nat.div_add_mod (off + t) ks.length).symm
      · simp at h
    | sym m i sz j =>
      simp only [readOne] at h
      split at h
      · rename_i v hz hv
        have hz : sz = ks.length := by simpa using hz
        subst hz
        simp at h; obtain ⟨rfl, rfl⟩ := h
        obtain ⟨hj, rfl⟩ := rc _ _ _ hv
        refine ⟨_, ?_, fun _ x => x⟩
        rw [← key _ _ hj hC.one]
        congr 1
        simp only [Loc.off]; omega
      · simp at h

theorem readOne_cell {bd : Body} {p : Loc} {t : Nat} {c : SV} {C : List Prop} (h : readOne bd p t = some (c, C)) (hC : AllC C) (hb : bodyOk bd) :
    (∀ l, bd ≠ .log l) ∧ ∃ c0, (cellsOf bd)[p.off + t]? = some c0 ∧ ∀ vs, DenC w0 O ρ c0 vs → DenC w0 O ρ c vs := by
  cases bd with
  | grow ks l => exact ⟨by intro l; simp, (readOne_cell0 (bd := .rows ks l) (p := p) (t := t) (by cases p <;> exact h) hC hb (by intro ks l; simp)).2⟩
  | _ => exact readOne_cell0 h hC hb (by intro ks l; simp)

theorem Holds.cells {bd : Body} {hd : Hd} {F : Foot} (h : Holds w0 O ρ w bd hd F) (hl : ∀ l, bd ≠ .log l) {b base : Nat} (hloc : hd.loc = some (b, base)) :
    bodyOk bd ∧ CellsAt w0 O ρ w b base (cellsOf bd) ∧ ((∀ ks l, bd ≠ .grow ks l) → ∀ j, j < (cellsOf bd).length → F b (base + j)) := by
  cases hd with
  | «at» b' base' =>
    simp [Hd.loc] at hloc; obtain ⟨rfl, rfl⟩ := hloc
    cases bd
    case log l => exact absurd rfl (hl l)
    case grow ks l => exact h.elim
    all_goals
      simp only [Holds] at h
      exact ⟨h.1, h.2.2, fun _ j hj => (h.2.1 _ _).2 ⟨rfl, by omega, by omega⟩⟩
  | sl loc len cap =>
    simp [Hd.loc] at hloc; subst hloc
    have h' : ∃ F0, OwnAt w0 O ρ w bd (some (b, base)) len cap F0 ∧ ((∀ ks l, bd ≠ .grow ks l) → F0 = F) := by
      cases bd
      case log l => exact absurd rfl (hl l)
      case grow ks l => obtain ⟨c, F0, _, h2, _⟩ := h; exact ⟨F0, h2, fun hg => absurd rfl (hg ks l)⟩
      all_goals first | exact ⟨F, h, fun _ => rfl⟩ | exact h.elim
    obtain ⟨F0, ⟨h1, h2, h3, h4, h5, h6⟩, he⟩ := h'
    refine ⟨h3, h5, fun hg j hj => ?_⟩
    rw [← he hg]
    refine (h4 _ _).2 ⟨rfl, by omega, ?_⟩
    rw [cells_length h3 hl, ← h1] at hj
    have := Nat.mul_le_mul_right (esz bd) h2
    omega

theorem bodyOk_of {H : Nat → Option Body} {Φ : Nat → Foot} (x : RelH w0 O ρ H w Φ) {id : Nat} {bd : Body} (hb : H id = some bd) : bodyOk bd := by
  obtain ⟨hd, _, h⟩ := x.holds id bd hb
  cases bd
  case rows ks l =>
    cases hd <;> simp only [Holds] at h
    · exact h.1
    · exact h.2.2.1
  case grow ks l =>
    cases hd <;> simp only [Holds] at h
    obtain ⟨_, _, _, h, _⟩ := h
    exact h.2.2.1
  all_goals exact trivial

theorem read_one {H : Nat → Option Body} {Φ : Nat → Foot} (x : RelH w0 O ρ H w Φ) {id : Nat} {bd : Body} (hb : H id = some bd) {hd : Hd} (hr : ρ id = some hd)
    {b base : Nat} (hloc : hd.loc = some (b, base)) {p : Loc} {t : Nat} {c : SV} {C : List Prop} (h : readOne bd p t = some (c, C)) (hC : AllC C) :
    ∃ v, w.cell? (adr b (base + (p.off + t))) = some v ∧ DenC w0 O ρ c [v] ∧ isAggV v = false := by
  obtain ⟨hl, c0, e1, e2⟩ := readOne_cell (w0 := w0) (O := O) (ρ := ρ) h hC (bodyOk_of x hb)
  obtain ⟨hd', hr', hh⟩ := x.holds id bd hb
  rw [hr] at hr'; cases hr'
  obtain ⟨v, g1, g2, g3, _⟩ := (hh.cells hl hloc).2.1 _ _ e1
  exact ⟨v, g1, e2 _ g2, g3⟩

theorem read_n {H : Nat → Option Body} {Φ : Nat → Foot} (x : RelH w0 O ρ H w Φ) {id : Nat} {bd : Body} (hb : H id = some bd) {hd : Hd} (hr : ρ id = some hd)
    {b base : Nat} (hloc : hd.loc = some (b, base)) {p : Loc} : ∀ (n t : Nat) (cs : List SV) (C : List Prop), readN bd p n t = some (cs, C) → AllC C →
    cs.length = n ∧ ∃ vs : List Value, DenL w0 O ρ cs vs ∧ ∀ j v, vs[j]? = some v → w.cell? (adr b (base + p.off + (t + j))) = some v
  | 0, t, cs, C, h, _ => by
    simp [readN] at h; obtain ⟨rfl, _⟩ := h
    exact ⟨rfl, [], by simp [DenL], by simp⟩
  | n + 1, t, cs, C, h, hC => by
    simp only [readN] at h
    split at h
    · rename_i v C1 vs C2 h1 h2
      simp at h; obtain ⟨rfl, rfl⟩ := h
      obtain ⟨hC1, hC2⟩ := hC.append
      obtain ⟨u, g1, g2, g3⟩ := read_one x hb hr hloc h1 hC1
      obtain ⟨l1, us, g4, g5⟩ := read_n x hb hr hloc n (t + 1) _ _ h2 hC2
      refine ⟨by simp [l1], u :: us, by simp only [DenL]; exact ⟨u, us, rfl, g2, g3, g4⟩, fun j v hj => ?_⟩
      cases j with
      | zero => simp at hj; subst hj; rw [← g1]; congr 2; omega
      | succ j => simp at hj; rw [← g5 j v hj]; congr 2; omega
    · simp at h
end

/-! ### writing -/
theorem adr_add (b o n : Nat) : (adr b o).add n = adr b (o + n) := by
  unfold Addr.add adr
  split
  · subst_vars; rfl
  · rfl

theorem adr_inj {b o b' o' : Nat} : adr b o = adr b' o' ↔ b = b' ∧ o = o' := by
  simp [adr]

theorem oneCell_den {w0 : World} {O : Own} {ρ : Rho} {c : SV} {u : Value} (h : oneCell c = true) (hd : DenC w0 O ρ c [u]) : u.oneCell' = true ∧ isAggV u = false := by
  cases c <;> simp [oneCell] at h <;> simp only [DenC] at hd
  case raw v => obtain ⟨hd, _⟩ := hd; simp at hd; subst hd; cases u <;> simp_all [oneV, Value.oneCell', isAggV]
  case sl => obtain ⟨a, cap, h1, _⟩ := hd; simp at h1; subst h1; simp [Value.oneCell', isAggV]
  case own => obtain ⟨a, b, cap, _, h1⟩ := hd; simp at h1; subst h1; simp [Value.oneCell', isAggV]
  case ro => obtain ⟨a, cap, h1, _⟩ := hd; simp at h1; subst h1; simp [Value.oneCell', isAggV]
  case roi => obtain ⟨a, cap, h1, _⟩ := hd; simp at h1; subst h1; simp [Value.oneCell', isAggV]
  case rob => obtain ⟨a, cap, h1, _⟩ := hd; simp at h1; subst h1; simp [Value.oneCell', isAggV]
  case ptr => obtain ⟨a, b, c, _, _, h1⟩ := hd; simp at h1; subst h1; simp [Value.oneCell', isAggV]
  case sptr => obtain ⟨a, b, c, _, _, h1⟩ := hd; simp at h1; subst h1; simp [Value.oneCell', isAggV]
  case rop => obtain ⟨a, b, c, h1, _⟩ := hd; simp at h1; subst h1; simp [Value.oneCell', isAggV]
  case func => obtain ⟨a, b, h1, _⟩ := hd; simp at h1; subst h1; simp [Value.oneCell', isAggV]
  all_goals simp at hd
  case bool => subst hd; simp [Value.oneCell', isAggV]
  case sbool => subst hd; simp [Value.oneCell', isAggV]
  case lit => obtain ⟨rfl, _⟩ := hd; simp [Value.oneCell', isAggV]
  case int => obtain ⟨rfl, _⟩ := hd; simp [Value.oneCell', isAggV]

/-- what a write of one cell does to a chunk -/
structure Writes (w0 : World) (O : Own) (ρ : Rho) (bd bd' : Body) (idx : Nat) (u : Value) : Prop where
  nolog : ∀ l, bd ≠ .log l
  nolog' : ∀ l, bd' ≠ .log l
  noc : (∃ cs, bd' = .cells cs) → ∃ cs, bd = .cells cs
  ok : bodyOk bd → bodyOk bd'
  ec : ecount bd' = ecount bd
  es : esz bd' = esz bd
  lt : bodyOk bd → idx < (cellsOf bd).length
  len : bodyOk bd → (cellsOf bd').length = (cellsOf bd).length
  cell : bodyOk bd → ∀ j c', (cellsOf bd')[j]? = some c' → (j = idx ∧ DenC w0 O ρ c' [u]) ∨ (j ≠ idx ∧ ∃ c, (cellsOf bd)[j]? = some c ∧ ∀ vs, DenC w0 O ρ c vs → DenC w0 O ρ c' vs)
  nog : ∀ ks l, bd ≠ .grow ks l := by intro ks l; simp
  nog' : ∀ ks l, bd' ≠ .grow ks l := by intro ks l; simp

section
variable {w0 : World} {O : Own} {ρ : Rho} {w : World}

theorem CellsAt.write {bd bd' : Body} {idx : Nat} {u : Value} (hw : Writes w0 O ρ bd bd' idx u) (hb : bodyOk bd) (hu : isAggV u = false) {b base : Nat}
    (x : CellsAt w0 O ρ w b base (cellsOf bd)) : CellsAt w0 O ρ (w.setCell (adr b (base + idx)) u) b base (cellsOf bd') := by
  intro j c' hc'
  rcases hw.cell hb j c' hc' with ⟨rfl, h2⟩ | ⟨hne, c, h1, h2⟩
  · obtain ⟨c0, hc0⟩ : ∃ c0, (cellsOf bd)[j]? = some c0 := ⟨_, List.getElem?_eq_getElem (hw.lt hb)⟩
    obtain ⟨v, g1, _, _, g4⟩ := x j c0 hc0
    exact ⟨u, World.cell?_setCell_same _ _ _ g1, h2, hu, by rw [World.frozen?_setCell]; exact g4⟩
  · obtain ⟨v, g1, g2, g3, g4⟩ := x j c h1
    refine ⟨v, ?_, h2 _ g2, g3, by rw [World.frozen?_setCell]; exact g4⟩
    rw [World.cell?_setCell_other _ _ _ _ (by rw [Ne, adr_inj]; omega)]
    exact g1

theorem Holds.write {bd bd' : Body} {idx : Nat} {u : Value} (hw : Writes w0 O ρ bd bd' idx u) (hu : isAggV u = false) {hd : Hd} {F : Foot} (x : Holds w0 O ρ w bd hd F)
    {b base : Nat} (hloc : hd.loc = some (b, base)) : Holds w0 O ρ (w.setCell (adr b (base + idx)) u) bd' hd F := by
  cases hd with
  | «at» b' base' =>
    simp [Hd.loc] at hloc; obtain ⟨rfl, rfl⟩ := hloc
    have h : bodyOk bd ∧ Rng F b' base' (cellsOf bd).length ∧ CellsAt w0 O ρ w b' base' (cellsOf bd) := by
      cases bd
      case log l => exact absurd rfl (hw.nolog l)
      case grow ks l => exact absurd rfl (hw.nog ks l)
      all_goals exact x
    have h' : bodyOk bd' ∧ Rng F b' base' (cellsOf bd').length ∧ CellsAt w0 O ρ (w.setCell (adr b' (base' + idx)) u) b' base' (cellsOf bd') :=
      ⟨hw.ok h.1, by rw [hw.len h.1]; exact h.2.1, h.2.2.write hw h.1 hu⟩
    cases bd'
    case log l => exact absurd rfl (hw.nolog' l)
    case grow ks l => exact absurd rfl (hw.nog' ks l)
    all_goals exact h'
  | sl loc len cap =>
    simp [Hd.loc] at hloc; subst hloc
    have hnc : ∀ cs, bd ≠ .cells cs := fun cs e => by subst e; exact x.elim
    have h : OwnAt w0 O ρ w bd (some (b, base)) len cap F := by
      cases bd
      case log l => exact absurd rfl (hw.nolog l)
      case grow ks l => exact absurd rfl (hw.nog ks l)
      all_goals first | exact x | exact x.elim
    obtain ⟨h1, h2, h3, h4, h5, h6⟩ := h
    have h' : OwnAt w0 O ρ (w.setCell (adr b (base + idx)) u) bd' (some (b, base)) len cap F := by
      refine ⟨h1.trans hw.ec.symm, h2, hw.ok h3, by rw [hw.es]; exact h4, h5.write hw h3 hu, fun j hj => ?_⟩
      rw [hw.es] at hj
      obtain ⟨⟨v, g1⟩, g2⟩ := h6 j hj
      refine ⟨?_, by rw [World.frozen?_setCell]; exact g2⟩
      by_cases e : j = idx
      · subst e; exact ⟨u, World.cell?_setCell_same _ _ _ g1⟩
      · exact ⟨v, by rw [World.cell?_setCell_other _ _ _ _ (by rw [Ne, adr_inj]; omega)]; exact g1⟩
    cases bd'
    case log l => exact absurd rfl (hw.nolog' l)
    case grow ks l => exact absurd rfl (hw.nog' ks l)
    case cells cs => obtain ⟨cs', e⟩ := hw.noc ⟨cs, rfl⟩; exact absurd e (hnc cs')
    all_goals exact h'

theorem upF_self (Φ : Nat → Foot) (id : Nat) : upF Φ id (Φ id) = Φ := by
  funext i; unfold upF; split
  · subst_vars; rfl
  · rfl
theorem upH_upH (H : Nat → Option Body) (id : Nat) (a b : Option Body) : upH (upH H id a) id b = upH H id b := by
  funext i; unfold upH; split <;> rfl
theorem upH_self {H : Nat → Option Body} {id : Nat} {b : Option Body} (h : H id = b) : upH H id b = H := by
  funext i; unfold upH; split
  · rename_i e; rw [e]; exact h.symm
  · rfl

theorem RelH.write {H : Nat → Option Body} {Φ : Nat → Foot} (x : RelH w0 O ρ H w Φ) {id : Nat} {bd bd' : Body} (hb : H id = some bd) {hd : Hd} (hr : ρ id = some hd)
    {b base : Nat} (hloc : hd.loc = some (b, base)) {idx : Nat} {u : Value} (hw : Writes w0 O ρ bd bd' idx u) (hu : isAggV u = false) :
    RelH w0 O ρ (upH H id (some bd')) (w.setCell (adr b (base + idx)) u) Φ := by
  obtain ⟨hd', hr', hh⟩ := x.holds id bd hb
  rw [hr] at hr'; cases hr'
  obtain ⟨hok, hcells, hF⟩ := hh.cells hw.nolog hloc
  have hF := hF hw.nog
  have hmine := x.mine id b (base + idx) (by simp [hb]) (hF idx (hw.lt hok))
  have x1 : RelH w0 O ρ (upH H id none) (w.setCell (adr b (base + idx)) u) Φ := by
    refine (x.drop id).move (x.frame.setCell u hmine.2) (by simp) fun i hi b' o hFi => ⟨?_, by rw [World.frozen?_setCell]⟩
    have hne : i ≠ id := by rintro rfl; simp [upH] at hi
    rw [World.cell?_setCell_other]
    rw [Ne, adr_inj]
    rintro ⟨rfl, rfl⟩
    exact x.disj i id b _ hne (by unfold upH at hi; simpa [hne] using hi) (by simp [hb]) hFi (hF idx (hw.lt hok))
  have := x1.put (id := id) (bd := bd') (hd := hd) (F := Φ id) hr (hh.write hw hu hloc)
    (fun i b' o hi hn h1 h2 => x.disj i id b' o hi (by unfold upH at hn; simpa [hi] using hn) (by simp [hb]) h1 h2)
    (fun b' o h1 => by have := x.mine id b' o (by simp [hb]) h1; simpa using this)
  rwa [upF_self, upH_upH] at this

theorem poke_spec : ∀ (m e : Nat) (cs cs' : List SV) (i sz j : Nat) (v : SV) (l : Bool) (k : IntKind) (n : Int), num v = some (l, k, n) → poke cs i sz j v m e = some cs' → 0 < sz →
    cs'.length = cs.length ∧
    (∀ t c', cs'[t]? = some c' → ∃ c, cs[t]? = some c ∧ ((∃ e', e ≤ e' ∧ e' < e + m ∧ t = j + e' * sz ∧ i = e' ∧ c' = .int k n) ∨ ((∀ e', e ≤ e' → e' < e + m → t = j + e' * sz → i ≠ e') ∧ ∀ w0 O ρ vs, DenC w0 O ρ c vs → DenC w0 O ρ c' vs))) ∧
    ∀ e', e ≤ e' → e' < e + m → j + e' * sz < cs.length
  | 0, e, cs, cs', i, sz, j, v, l, k, n, hv, h, hsz => by
    simp [poke] at h; subst h
    exact ⟨rfl, fun t c' hc' => ⟨c', hc', .inr ⟨fun e' h1 h2 => by omega, fun _ _ _ _ x => x⟩⟩, fun e' h1 h2 => by omega⟩
  | m + 1, e, cs, cs', i, sz, j, v, l, k, n, hv, h, hsz => by
    simp only [poke] at h
    split at h
    · simp at h
    · rename_i cs1 hp
      obtain ⟨hl, hc, hlt⟩ := poke_spec m (e + 1) cs cs1 i sz j v l k n hv hp hsz
      rw [hv] at h
      split at h
      · rename_i c l1 k1 n1 h1 h2
        simp at h2; obtain ⟨rfl, rfl, rfl⟩ := h2
        split at h
        · rename_i l2 k2 n2 h3
          split at h
          · rename_i hk
            have hk : k = k2 := by simpa using hk
            subst hk
            simp at h; subst h
            have hin : j + e * sz < cs1.length := (List.getElem?_eq_some_iff.1 h1).1
            refine ⟨by simp [hl], fun t c' hc' => ?_, fun e' h4 h5 => ?_⟩
            · rw [List.getElem?_set] at hc'
              split at hc'
              · rename_i het
                subst het
                simp at hc'
                obtain ⟨c0, g1, g2⟩ := hc _ _ h1
                refine ⟨c0, g1, ?_⟩
                by_cases hie : i = e
                · left; exact ⟨e, by omega, by omega, rfl, hie, by rw [← hc', if_pos hie]⟩
                · right
                  refine ⟨fun e' h6 h7 h8 => ?_, fun w0 O ρ vs hx => ?_⟩
                  · have : e' = e := by
                      have := Nat.mul_right_cancel hsz (show e * sz = e' * sz by omega)
                      exact this.symm
                    subst this; exact hie
                  · rw [if_neg hie] at hc'
                    rcases g2 with ⟨e', h6, h7, h8, _⟩ | ⟨_, g3⟩
                    · have := Nat.mul_right_cancel hsz (show e * sz = e' * sz by omega)
                      omega
                    · have := g3 w0 O ρ vs hx
                      rw [num_den h3] at this
                      rw [← hc']; simpa [DenC] using this
              · rename_i hne
                obtain ⟨c0, g1, g2⟩ := hc t c' hc'
                refine ⟨c0, g1, ?_⟩
                rcases g2 with ⟨e', h6, h7, h8, h9, h10⟩ | ⟨g3, g4⟩
                · left; exact ⟨e', by omega, by omega, h8, h9, h10⟩
                · right
                  refine ⟨fun e' h6 h7 h8 => ?_, g4⟩
                  by_cases hee : e' = e
                  · subst hee; exact absurd h8.symm hne
                  · exact g3 e' (by omega) (by omega) h8
            · by_cases hee : e' = e
              · subst hee; rw [← hl]; exact hin
              · exact hlt e' (by omega) (by omega)
          · simp at h
        · simp at h
      · simp at h

theorem set_get {α : Type} {l : List α} {i j : Nat} {a c : α} (h : (l.set i a)[j]? = some c) : (j = i ∧ c = a) ∨ (j ≠ i ∧ l[j]? = some c) := by
  rw [List.getElem?_set] at h
  split at h
  · rename_i e; subst e
    split at h
    · simp at h; exact .inl ⟨rfl, h.symm⟩
    · simp at h
  · rename_i e; exact .inr ⟨fun x => e x.symm, h⟩

theorem writeOne_spec {bd bd' : Body} {p : Loc} {t : Nat} {v : SV} {C : List Prop} (h : writeOne bd p t v = some (bd', C)) (hC : AllC C) {u : Value} (hu : DenC w0 O ρ v [u])
    (hsz : ∀ m i sz j, p = .sym m i sz j → 0 < sz) : Writes w0 O ρ bd bd' (p.off + t) u := by
  cases bd with
  | log l => simp [writeOne] at h
  | lists q k l => simp [writeOne] at h
  | grow ks l => cases p <;> simp [writeOne] at h
  | cells cs =>
    cases p with
    | «at» off =>
      simp only [writeOne] at h
      split at h
      · rename_i c hc
        simp at h; obtain ⟨rfl, _⟩ := h
        have hlt := (List.getElem?_eq_some_iff.1 hc).1
        refine ⟨by intro l; simp, by intro l; simp, by simp, fun _ => trivial, by simp [ecount], rfl, fun _ => hlt, fun _ => by simp [cellsOf], fun _ j c' hc' => ?_, by intro ks l; simp, by intro ks l; simp⟩
        rcases set_get hc' with ⟨h1, rfl⟩ | ⟨h1, h2⟩
        · exact .inl ⟨h1, hu⟩
        · exact .inr ⟨h1, c', h2, fun _ x => x⟩
      · simp at h
    | sym m i sz j =>
      simp only [writeOne] at h
      split at h
      · rename_i cs' hp
        simp at h; obtain ⟨rfl, rfl⟩ := h
        have hi := hC.one
        obtain ⟨l, k, n, hv⟩ : ∃ l k n, num v = some (l, k, n) := by
          cases m with
          | zero => omega
          | succ m =>
            simp only [poke] at hp
            split at hp
            · simp at hp
            · split at hp
              · rename_i h1 h2; exact ⟨_, _, _, h2⟩
              · simp at hp
        have hsz' := hsz m i sz j rfl
        obtain ⟨hl, hc, hlt⟩ := poke_spec m 0 cs cs' i sz (j + t) v l k n hv hp hsz'
        refine ⟨by intro l; simp, by intro l; simp, by simp, fun _ => trivial, by simp [ecount, hl], rfl, fun _ => ?_, fun _ => by simp [cellsOf, hl], fun _ t' c' hc' => ?_, by intro ks l; simp, by intro ks l; simp⟩
        · have := hlt i (by omega) (by omega)
          simp only [Loc.off, cellsOf]; omega
        · obtain ⟨c0, g1, g2⟩ := hc t' c' hc'
          rcases g2 with ⟨e', _, h7, h8, rfl, rfl⟩ | ⟨g3, g4⟩
          · left; refine ⟨by simp only [Loc.off]; omega, ?_⟩
            rw [num_den hv] at hu; simpa [DenC] using hu
          · right; refine ⟨fun e => g3 i (by omega) (by omega) (by simp only [Loc.off] at e; omega) rfl, c0, g1, fun vs => g4 _ _ _ vs⟩
      · simp at h
  | ints k l =>
    have key : ∀ (idx : Nat) (n : Bool × Int), idx < l.length → num v = some (n.1, k, n.2) → Writes w0 O ρ (.ints k l) (.ints k (l.set idx n.2)) idx u := by
      intro idx n hlt hv
      refine ⟨by intro l; simp, by intro l; simp, by simp, fun _ => trivial, by simp [ecount], rfl, fun _ => by simpa [cellsOf] using hlt, fun _ => by simp [cellsOf], fun _ j c' hc' => ?_, by intro ks l; simp, by intro ks l; simp⟩
      simp only [cellsOf, List.map_set] at hc'
      rcases set_get hc' with ⟨h1, rfl⟩ | ⟨h1, h2⟩
      · left; refine ⟨h1, ?_⟩
        rw [num_den hv] at hu; simpa [DenC] using hu
      · exact .inr ⟨h1, c', h2, fun _ x => x⟩
    cases p with
    | «at» off =>
      simp only [writeOne] at h
      split at h
      · rename_i l' k' n hv
        split at h
        · rename_i hk
          have hk : k = k' := by simpa using hk
          subst hk
          simp at h; obtain ⟨rfl, rfl⟩ := h
          exact key _ (l', n) hC.one hv
        · simp at h
      · simp at h
    | sym m i sz j =>
      simp only [writeOne] at h
      split at h
      · rename_i l' k' n hv hz
        have hz : sz = 1 := by simpa using hz
        subst hz
        split at h
        · rename_i hk
          have hk : k = k' := by simpa using hk
          subst hk
          simp at h; obtain ⟨rfl, rfl⟩ := h
          have := key _ (l', n) hC.one hv
          rwa [show (Loc.sym m i 1 j).off + t = i + (j + t) by simp only [Loc.off]; omega]
        · simp at h
      · simp at h
  | rows ks l =>
    cases p with
    | «at» off => simp [writeOne] at h
    | sym m i sz j =>
      simp only [writeOne] at h
      split at h
      · rename_i l' k' n k hv hks hz
        have hz : sz = ks.length := by simpa using hz
        subst hz
        split at h
        · rename_i hk
          have hk : k = k' := by simpa using hk
          subst hk
          simp only [Option.some.injEq, Prod.mk.injEq] at h; obtain ⟨rfl, rfl⟩ := h
          have hi := hC.one
          have hj := (List.getElem?_eq_some_iff.1 hks).1
          have hrow : ∀ r, r ∈ l.set i ((l.getD i []).set (j + t) n) → bodyOk (.rows ks l) → r.length = ks.length := by
            intro r hr hb
            rcases List.mem_or_eq_of_mem_set hr with h1 | rfl
            · exact hb r h1
            · simp only [List.length_set]; exact hb _ (by rw [List.getD]; simp [hi])
          have hz : ∀ (l : List (List Int)), (∀ r ∈ l, r.length = ks.length) → ∀ r ∈ l.map (fun r => List.zipWith SV.int ks r), r.length = ks.length := by
            intro l h r hr
            obtain ⟨r', h1, rfl⟩ := List.mem_map.1 hr
            simp [h r' h1]
          refine ⟨by intro l; simp, by intro l; simp, by simp, fun hb r hr => hrow r hr hb, by simp [ecount], rfl, fun hb => ?_, fun hb => ?_, fun hb t' c' hc' => ?_, by intro ks l; simp, by intro ks l; simp⟩
          · rw [cells_length hb (by intro l; simp)]
            simp only [ecount, esz, Loc.off]
            have := Nat.mul_le_mul_right ks.length (show i + 1 ≤ l.length from hi)
            rw [Nat.succ_mul] at this; omega
          · rw [cells_length hb (by intro l; simp), cells_length (bd := .rows ks (l.set i ((l.getD i []).set (j + t) n))) (fun r hr => hrow r hr hb) (by intro l; simp)]
            simp [ecount, esz]
          · have hpos : 0 < ks.length := by omega
            have e1 : t' = t' / ks.length * ks.length + t' % ks.length := by rw [Nat.mul_comm]; exact (Nat.div_add_mod _ _).symm
            have hm := Nat.mod_lt t' hpos
            have h1 : (cellsOf (.rows ks (l.set i ((l.getD i []).set (j + t) n))))[t']? = ((l.set i ((l.getD i []).set (j + t) n)).map (fun r => List.zipWith SV.int ks r))[t' / ks.length]?.bind (·[t' % ks.length]?) := by
              simp only [cellsOf]
              rw (occs := .pos [1]) [e1]
              exact flat_get _ _ _ _ (hz _ fun r hr => hrow r hr hb) hm
            have h2 : (cellsOf (.rows ks l))[t']? = (l.map (fun r => List.zipWith SV.int ks r))[t' / ks.length]?.bind (·[t' % ks.length]?) := by
              simp only [cellsOf]
              rw (occs := .pos [1]) [e1]
              exact flat_get _ _ _ _ (hz _ hb) hm
            rw [h1] at hc'
            simp only [List.getElem?_map, List.getElem?_set] at hc' h2
            by_cases hq : i = t' / ks.length
            · subst hq
              simp only [↓reduceIte, hi, Option.map_some, Option.bind_some] at hc'
              simp only [getD_get hi [], Option.map_some, Option.bind_some] at h2
              rw [List.getElem?_zipWith] at hc' h2
              rw [List.getElem?_set] at hc'
              by_cases hq2 : j + t = t' % ks.length
              · left
                refine ⟨by simp only [Loc.off]; omega, ?_⟩
                rw [if_pos hq2] at hc'
                rw [← hq2, hks] at hc'
                have hlt2 : j + t < (l.getD (t' / ks.length) []).length := by rw [hb _ (by rw [List.getD]; simp [hi])]; exact hj
                rw [if_pos hlt2] at hc'
                simp only [Option.some.injEq] at hc'; subst hc'
                rw [num_den hv] at hu; simp only [DenC]; exact hu
              · right
                rw [if_neg hq2] at hc'
                exact ⟨by simp only [Loc.off]; omega, c', by rw [h2]; exact hc', fun _ x => x⟩
            · right
              rw [if_neg hq] at hc'
              refine ⟨?_, c', by rw [h2]; exact hc', fun _ x => x⟩
              simp only [Loc.off]
              intro e
              apply hq
              rw [e, show i * ks.length + j + t = (j + t) + ks.length * i by rw [Nat.mul_comm]; omega, Nat.add_mul_div_left _ _ hpos, Nat.div_eq_of_lt hj]; omega
        · simp at h
      · simp at h

/-- what is stored one cell behind the other -/
theorem run_storeCells (P : Program) {id : Nat} {hd : Hd} {b base : Nat} (hr : ρ id = some hd) (hloc : hd.loc = some (b, base)) {p : Loc} (hsz : ∀ m i sz j, p = .sym m i sz j → 0 < sz) :
    ∀ (vs : List SV) (us : List Value) (t : Nat) (H : Nat → Option Body) (Φ : Nat → Foot) (w : World) (bd bd' : Body) (C : List Prop), RelH w0 O ρ H w Φ → H id = some bd →
      writeN bd p t vs = some (bd', C) → AllC C → DenL w0 O ρ vs us → vs.all oneCell = true →
      ∃ w', (storeCells (adr b (base + p.off)) us t).run P w = .ok () w' ∧ RelH w0 O ρ (upH H id (some bd')) w' Φ ∧ w'.drawn = w.drawn ∧ w'.heap.size = w.heap.size
  | [], us, t, H, Φ, w, bd, bd', C, x, hb, h, _, hd', _ => by
    simp [writeN] at h; obtain ⟨rfl, _⟩ := h
    simp [DenL] at hd'; subst hd'
    exact ⟨w, rfl, by rw [upH_self hb]; exact x, rfl, rfl⟩
  | v :: vs, us, t, H, Φ, w, bd, bd', C, x, hb, h, hC, hd', ho => by
    simp only [DenL] at hd'
    obtain ⟨u, us, rfl, h1, h2, h3⟩ := hd'
    simp only [writeN] at h
    split at h
    · rename_i bd1 C1 h4
      split at h
      · rename_i bd2 C2 h5
        simp at h; obtain ⟨rfl, rfl⟩ := h
        obtain ⟨hC1, hC2⟩ := hC.append
        simp only [List.all_cons, Bool.and_eq_true] at ho
        have hw := writeOne_spec (w0 := w0) (O := O) (ρ := ρ) h4 hC1 h1 hsz
        have x1 := x.write hb hr hloc hw h2
        obtain ⟨w', g1, g2, g3, g4⟩ := run_storeCells P hr hloc hsz vs us (t + 1) (upH H id (some bd1)) Φ _ bd1 bd2 C2 x1 (by simp [upH]) h5 hC2 h3 ho.2
        refine ⟨w', ?_, by rwa [upH_upH] at g2, g3, by rw [g4]; simp⟩
        obtain ⟨hd1, hr1, hh⟩ := x.holds id bd hb
        rw [hr] at hr1; cases hr1
        obtain ⟨hok, hcells, _⟩ := hh.cells hw.nolog hloc
        obtain ⟨c0, hc0⟩ : ∃ c0, (cellsOf bd)[p.off + t]? = some c0 := ⟨_, List.getElem?_eq_getElem (hw.lt hok)⟩
        obtain ⟨v0, e1, _, _, e4⟩ := hcells _ _ hc0
        simp only [storeCells, Sem.run_bind, adr_add]
        rw [run_store P w _ _ _ (oneCell_den ho.1 h1).1, show base + p.off + t = base + (p.off + t) by omega, e1]
        simp only [e4, Bool.false_eq_true, if_false, Result.andThen_ok]
        exact g1
      · simp at h
    · simp at h
end
end Go.Vx

/- The operations, one by one. -/
namespace Go.Vx

theorem kidx_inj {a b : IntKind} (h : sameK a b = true) : a = b := by
  cases a <;> cases b <;> first | rfl | (simp [sameK, kidx] at h; done)

/-! ### numbers -/
theorem fits_uns {k : IntKind} (hk : uns k = true) {n : Int} : Fits k n ↔ 0 ≤ n ∧ n < (modulus k : Int) := by
  cases k <;> simp [uns] at hk <;> simp [Fits, IntKind.min, IntKind.max, IntKind.signed, IntKind.bits, modulus] <;> omega

theorem wrap_uns {k : IntKind} (hk : uns k = true) (n : Int) : k.wrap n = n % (modulus k : Int) := by
  cases k <;> simp [uns] at hk <;> simp [IntKind.wrap, IntKind.signed, IntKind.bits, modulus]

theorem fits_ofNat {k : IntKind} (hk : uns k = true) {n : Nat} (h : n < modulus k) : Fits k (.ofNat n) := by
  rw [fits_uns hk]; exact ⟨Int.natCast_nonneg n, Int.ofNat_lt.2 h⟩

theorem uns_nat {k : IntKind} (hk : uns k = true) {n : Int} (h : Fits k n) : ∃ m : Nat, n = (m : Int) ∧ m < modulus k := by
  rw [fits_uns hk] at h
  exact ⟨n.toNat, (Int.toNat_of_nonneg h.1).symm, by omega⟩

theorem modulus_pos (k : IntKind) : 0 < modulus k := by cases k <;> decide
theorem modulus_bits (k : IntKind) : modulus k = 2 ^ k.bits := by cases k <;> decide

theorem ofInt_toNat {k : IntKind} (m : Nat) (h : m < modulus k) : (BitVec.ofInt k.bits (m : Int)).toNat = m := by
  rw [BitVec.toNat_ofInt, show ((2 ^ k.bits : Nat) : Int) = (modulus k : Int) by rw [modulus_bits]]
  have h0 : (0 : Int) ≤ m := Int.natCast_nonneg m
  rw [Int.emod_eq_of_lt h0 (by exact_mod_cast h)]; rfl

theorem wrap_nat {k : IntKind} (hk : uns k = true) (m : Nat) : k.wrap (m : Int) = ((m % modulus k : Nat) : Int) := by
  rw [wrap_uns hk]; exact (Int.natCast_emod m (modulus k)).symm

theorem wrap_lt {k : IntKind} (hk : uns k = true) {m : Nat} (h : m < modulus k) : k.wrap (m : Int) = (m : Int) := by
  rw [wrap_nat hk, Nat.mod_eq_of_lt h]

theorem isMask_spec {m : Nat} (h : isMask m = true) (x : Nat) : x &&& m = x % (m + 1) := by
  unfold isMask at h
  have h : 2 ^ Nat.log2 (m + 1) = m + 1 := Nat.eq_of_beq_eq_true h
  rw [← h, ← Nat.and_two_pow_sub_one_eq_mod]
  congr 1
  omega

theorem landN_spec (lx ly : Bool) (x y : Nat) : landN lx ly x y = x &&& y := by
  unfold landN
  split
  · rename_i h; rw [Bool.and_eq_true] at h; exact (isMask_spec h.2 x).symm
  · split
    · rename_i h; rw [Bool.and_eq_true] at h; rw [Nat.and_comm]; exact (isMask_spec h.2 y).symm
    · rfl

theorem forceN_eq {α : Type} (m : Nat) (f : Nat → α) : forceN m f = f m := by cases m <;> rfl
theorem mkLit_eq (k : IntKind) (n : Int) : mkLit k n = .lit k n := by
  unfold mkLit; cases n <;> simp [forceN_eq]

theorem den_mkNum {w0 : World} {O : Own} {ρ : Rho} {l : Bool} {k : IntKind} {n : Int} (h : Fits k n) : DenV w0 O ρ (mkNum l k n) (.int k n) := by
  right
  cases l <;> simp [mkNum, mkLit_eq, isAggS, isAggV, DenC, Value.cells, h]

theorem den_mkLit {w0 : World} {O : Own} {ρ : Rho} {k : IntKind} {n : Int} (h : Fits k n) : DenV w0 O ρ (mkLit k n) (.int k n) := by
  right; simp [mkLit_eq, isAggS, isAggV, DenC, Value.cells, h]

theorem den_int {w0 : World} {O : Own} {ρ : Rho} {k : IntKind} {n : Int} (h : Fits k n) : DenV w0 O ρ (.int k n) (.int k n) := by
  right; simp [isAggS, isAggV, DenC, Value.cells, h]

theorem den_litOr {w0 : World} {O : Own} {ρ : Rho} {l : Bool} {k : IntKind} {n : Int} {s : SV} (h : Fits k n) (hs : s = .int k n) : DenV w0 O ρ (litOr l k n s) (.int k n) := by
  subst hs; cases l
  · exact den_int h
  · exact den_mkLit h
theorem symU_eq {op : BinOp} {k : IntKind} {lx ly : Bool} {a b : Int} {n : Nat} {C : List Prop} (h : arithU op (modulus k) lx ly a.toNat b.toNat = some (n, C)) : symU op k lx ly a b (.ofNat n) = .int k (.ofNat n) := by
  cases op <;> simp only [arithU, Option.some.injEq, Prod.mk.injEq, reduceCtorEq] at h
  case quo =>
    split at h
    · simp at h
    · simp at h; obtain ⟨rfl, _⟩ := h; rfl
    · simp at h; obtain ⟨rfl, _⟩ := h; rfl
  case rem =>
    split at h
    · simp at h
    · simp at h; obtain ⟨rfl, _⟩ := h; rfl
    · simp at h; obtain ⟨rfl, _⟩ := h; rfl
  case and =>
    obtain ⟨rfl, _⟩ := h
    simp only [symU, landN]
    split
    · rfl
    · split <;> rfl
  all_goals (obtain ⟨rfl, _⟩ := h; rfl)
theorem den_mkBool {w0 : World} {O : Own} {ρ : Rho} (l b : Bool) : DenV w0 O ρ (mkBool l b) (.bool b) := by
  right
  cases l <;> cases b <;> simp [mkBool, isAggS, isAggV, DenC, Value.cells]

theorem cells_one {v x : Value} (h : v.cells.toList = [x]) (ha : isAggV v = false) : v = x := by
  cases v <;> simp [Value.cells, isAggV] at h ha <;> exact h

theorem denV_num {w0 : World} {O : Own} {ρ : Rho} {c : SV} {v : Value} (h : DenV w0 O ρ c v) {l : Bool} {k : IntKind} {n : Int} (hn : num c = some (l, k, n)) : v = .int k n ∧ Fits k n := by
  rcases h with rfl | ⟨h1, h2⟩
  · simp [num] at hn
  · rw [num_den hn] at h2
    refine ⟨cells_one h2.1 ?_, h2.2⟩
    rw [← h1]; rcases num_spec hn with rfl | rfl <;> rfl

theorem denV_bool {w0 : World} {O : Own} {ρ : Rho} {c : SV} {v : Value} (h : DenV w0 O ρ c v) {l b : Bool} (hn : boolOf c = some (l, b)) : v = .bool b := by
  rcases h with rfl | ⟨h1, h2⟩
  · simp [boolOf] at hn
  · cases c <;> simp [boolOf] at hn
    all_goals
      obtain ⟨_, rfl⟩ := hn
      simp only [DenC] at h2
      exact cells_one h2 (by rw [← h1]; rfl)

section
variable {P : Program} {w : World}

theorem run_add (k : IntKind) (a b : Int) (t : TypeId) : (binOp .add t (.int k a) (.int k b)).run P w = .ok (.int k (k.wrap (a + b))) w := by simp [binOp, Op.intArith]
theorem run_sub (k : IntKind) (a b : Int) (t : TypeId) : (binOp .sub t (.int k a) (.int k b)).run P w = .ok (.int k (k.wrap (a - b))) w := by simp [binOp, Op.intArith]
theorem run_mul (k : IntKind) (a b : Int) (t : TypeId) : (binOp .mul t (.int k a) (.int k b)).run P w = .ok (.int k (k.wrap (a * b))) w := by simp [binOp, Op.intArith]
theorem run_and (k : IntKind) (a b : Int) (t : TypeId) : (binOp .and t (.int k a) (.int k b)).run P w = .ok (.int k (k.wrap (((BitVec.ofInt k.bits a).toNat &&& (BitVec.ofInt k.bits b).toNat : Nat) : Int))) w := by
  rw [← BitVec.toNat_and]; simp only [binOp, ne_eq, not_true_eq_false, if_false, Op.intBits]; rfl
theorem run_or (k : IntKind) (a b : Int) (t : TypeId) : (binOp .or t (.int k a) (.int k b)).run P w = .ok (.int k (k.wrap (((BitVec.ofInt k.bits a).toNat ||| (BitVec.ofInt k.bits b).toNat : Nat) : Int))) w := by
  rw [← BitVec.toNat_or]; simp only [binOp, ne_eq, not_true_eq_false, if_false, Op.intBits]; rfl
theorem run_xor (k : IntKind) (a b : Int) (t : TypeId) : (binOp .xor t (.int k a) (.int k b)).run P w = .ok (.int k (k.wrap (((BitVec.ofInt k.bits a).toNat ^^^ (BitVec.ofInt k.bits b).toNat : Nat) : Int))) w := by
  rw [← BitVec.toNat_xor]; simp only [binOp, ne_eq, not_true_eq_false, if_false, Op.intBits]; rfl

theorem arithU_sound {k : IntKind} (hk : uns k = true) {op : BinOp} {lx ly : Bool} {a b : Int} (ha : Fits k a) (hb : Fits k b) {n : Nat} {C : List Prop}
    (h : arithU op (modulus k) lx ly a.toNat b.toNat = some (n, C)) (hC : AllC C) (t : TypeId) :
    (binOp op t (.int k a) (.int k b)).run P w = .ok (.int k (.ofNat n)) w ∧ Fits k (.ofNat n) := by
  obtain ⟨x, rfl, hx⟩ := uns_nat hk ha
  obtain ⟨y, rfl, hy⟩ := uns_nat hk hb
  simp only [Int.toNat_natCast] at h
  have hM := modulus_pos k
  cases op <;> simp only [arithU, Option.some.injEq, Prod.mk.injEq, reduceCtorEq] at h
  case add =>
    obtain ⟨rfl, _⟩ := h
    refine ⟨?_, fits_ofNat hk (Nat.mod_lt _ hM)⟩
    rw [run_add, show (x : Int) + y = ((x + y : Nat) : Int) from rfl, wrap_nat hk]; rfl
  case sub =>
    obtain ⟨rfl, _⟩ := h
    refine ⟨?_, fits_ofNat hk (Nat.mod_lt _ hM)⟩
    have e : (x : Int) - y = ((x + (modulus k - y) : Nat) : Int) - (modulus k : Int) := by omega
    rw [run_sub, wrap_uns hk, e, Int.sub_emod_right, ← Int.natCast_emod]; rfl
  case mul =>
    obtain ⟨rfl, _⟩ := h
    refine ⟨?_, fits_ofNat hk (Nat.mod_lt _ hM)⟩
    rw [run_mul, show (x : Int) * y = ((x * y : Nat) : Int) from rfl, wrap_nat hk]; rfl
  case and =>
    obtain ⟨rfl, _⟩ := h
    rw [landN_spec]
    have hlt : x &&& y < modulus k := Nat.lt_of_le_of_lt Nat.and_le_left hx
    refine ⟨?_, fits_ofNat hk hlt⟩
    rw [run_and, ofInt_toNat x hx, ofInt_toNat y hy, wrap_lt hk hlt]; rfl
  case or =>
    obtain ⟨rfl, _⟩ := h
    have hlt : x ||| y < modulus k := by
      rw [modulus_bits] at hx hy ⊢; exact Nat.or_lt_two_pow hx hy
    refine ⟨?_, fits_ofNat hk hlt⟩
    rw [run_or, ofInt_toNat x hx, ofInt_toNat y hy, wrap_lt hk hlt]; rfl
  case xor =>
    obtain ⟨rfl, _⟩ := h
    have hlt : x ^^^ y < modulus k := by
      rw [modulus_bits] at hx hy ⊢; exact Nat.xor_lt_two_pow hx hy
    refine ⟨?_, fits_ofNat hk hlt⟩
    rw [run_xor, ofInt_toNat x hx, ofInt_toNat y hy, wrap_lt hk hlt]; rfl
  case quo =>
    have key : y ≠ 0 → n = x / y → (binOp .quo t (.int k (x : Int)) (.int k (y : Int))).run P w = .ok (.int k (.ofNat n)) w ∧ Fits k (.ofNat n) := by
      rintro h0 rfl
      have hlt : x / y < modulus k := Nat.lt_of_le_of_lt (Nat.div_le_self _ _) hx
      refine ⟨?_, fits_ofNat hk hlt⟩
      have h1 : ¬ ((y : Int) = 0) := by omega
      have h2 : (x : Int).tdiv y = ((x / y : Nat) : Int) := rfl
      simp only [binOp, Op.intDiv, ne_eq, not_true_eq_false, if_false, h1, h2, wrap_lt hk hlt]
      rfl
    split at h
    · simp at h
    · rename_i hz; simp at h; exact key (fun e => hz e) h.1.symm
    · simp at h; obtain ⟨rfl, rfl⟩ := h; exact key hC.one rfl
  case rem =>
    have key : y ≠ 0 → n = x % y → (binOp .rem t (.int k (x : Int)) (.int k (y : Int))).run P w = .ok (.int k (.ofNat n)) w ∧ Fits k (.ofNat n) := by
      rintro h0 rfl
      have hlt : x % y < modulus k := Nat.lt_of_le_of_lt (Nat.mod_le _ _) hx
      refine ⟨?_, fits_ofNat hk hlt⟩
      have h1 : ¬ ((y : Int) = 0) := by omega
      have h2 : (x : Int).tmod y = ((x % y : Nat) : Int) := rfl
      simp only [binOp, Op.intDiv, ne_eq, not_true_eq_false, if_false, h1, h2]
      rfl
    split at h
    · simp at h
    · rename_i hz; simp at h; exact key (fun e => hz e) h.1.symm
    · simp at h; obtain ⟨rfl, rfl⟩ := h; exact key hC.one rfl

theorem wrap_fits {k : IntKind} {n : Int} (h : Fits k n) : k.wrap n = n := by
  cases k <;> simp [Fits, IntKind.min, IntKind.max, IntKind.signed, IntKind.bits] at h <;> simp [IntKind.wrap, IntKind.signed, IntKind.bits] <;> (try split) <;> omega

theorem fits_wrap (k : IntKind) (n : Int) : Fits k (k.wrap n) := by
  cases k <;> simp [Fits, IntKind.min, IntKind.max, IntKind.signed, IntKind.bits, IntKind.wrap] <;> (try split) <;> omega

theorem signed_nat {k : IntKind} (hk : uns k = false) {n : Int} (h : Fits k n) (h0 : 0 ≤ n) : ∃ m : Nat, n = (m : Int) ∧ m < modulus k / 2 := by
  refine ⟨n.toNat, (Int.toNat_of_nonneg h0).symm, ?_⟩
  cases k <;> simp [uns] at hk <;> simp [Fits, IntKind.min, IntKind.max, IntKind.signed, IntKind.bits] at h <;> simp [modulus] <;> omega

theorem fits_signed_nat {k : IntKind} (hk : uns k = false) {m : Nat} (h : m < modulus k / 2) : Fits k (m : Int) := by
  cases k <;> simp [uns] at hk <;> simp [modulus] at h <;> simp [Fits, IntKind.min, IntKind.max, IntKind.signed, IntKind.bits] <;> omega

theorem half_pow (k : IntKind) : modulus k / 2 = 2 ^ (k.bits - 1) := by cases k <;> decide
theorem half_lt (k : IntKind) {m : Nat} (h : m < modulus k / 2) : m < modulus k := by omega

theorem small_fits {k : IntKind} (hk : uns k = false) {n : Int} (h : Fits k n) {q : Nat} (hq : q ≤ n.natAbs) : (0 ≤ n → Fits k (q : Int)) ∧ (n < 0 → Fits k (-(q : Int))) := by
  cases k <;> simp [uns] at hk <;> simp [Fits, IntKind.min, IntKind.max, IntKind.signed, IntKind.bits] at h ⊢ <;> omega

theorem tdiv_fits {k : IntKind} (hk : uns k = false) {n : Int} (h : Fits k n) (m : Nat) : Fits k (n.tdiv (.ofNat (m + 1))) := by
  cases n with
  | ofNat a => exact (small_fits hk h (q := a / (m + 1)) (Nat.div_le_self _ _)).1 (Int.natCast_nonneg a)
  | negSucc a => exact (small_fits hk h (q := (a + 1) / (m + 1)) (Nat.div_le_self _ _)).2 (Int.negSucc_lt_zero a)

theorem tmod_fits {k : IntKind} (hk : uns k = false) {n : Int} (h : Fits k n) (m : Nat) : Fits k (n.tmod (.ofNat (m + 1))) := by
  cases n with
  | ofNat a => exact (small_fits hk h (q := a % (m + 1)) (Nat.mod_le _ _)).1 (Int.natCast_nonneg a)
  | negSucc a => exact (small_fits hk h (q := (a + 1) % (m + 1)) (Nat.mod_le _ _)).2 (Int.negSucc_lt_zero a)

/-- a signed division by a number above 0 -/
theorem run_quoS {k : IntKind} (hk : uns k = false) {a : Int} (ha : Fits k a) (m : Nat) (t : TypeId) :
    (binOp .quo t (.int k a) (.int k (.ofNat (m + 1)))).run P w = .ok (.int k (a.tdiv (.ofNat (m + 1)))) w ∧ Fits k (a.tdiv (.ofNat (m + 1))) := by
  have h1 : ¬ (Int.ofNat (m + 1) = 0) := fun e => by cases e
  refine ⟨?_, tdiv_fits hk ha m⟩
  simp only [binOp, Op.intDiv, ne_eq, not_true_eq_false, if_false, h1, wrap_fits (tdiv_fits hk ha m)]
  rfl
theorem run_remS {k : IntKind} (hk : uns k = false) {a : Int} (ha : Fits k a) (m : Nat) (t : TypeId) :
    (binOp .rem t (.int k a) (.int k (.ofNat (m + 1)))).run P w = .ok (.int k (a.tmod (.ofNat (m + 1)))) w ∧ Fits k (a.tmod (.ofNat (m + 1))) := by
  have h1 : ¬ (Int.ofNat (m + 1) = 0) := fun e => by cases e
  refine ⟨?_, tmod_fits hk ha m⟩
  simp only [binOp, Op.intDiv, ne_eq, not_true_eq_false, if_false, h1]
  rfl

theorem run_bitsS {k : IntKind} (hk : uns k = false) {op : BinOp} {f : Nat → Nat → Nat} {x y : Nat} (hx : x < modulus k / 2) (hy : y < modulus k / 2) (t : TypeId)
    (hf : (op = .and ∧ f = (· &&& ·)) ∨ (op = .or ∧ f = (· ||| ·)) ∨ (op = .xor ∧ f = (· ^^^ ·))) :
    (binOp op t (.int k (x : Int)) (.int k (y : Int))).run P w = .ok (.int k ((f x y : Nat) : Int)) w ∧ Fits k ((f x y : Nat) : Int) := by
  have hlt : f x y < modulus k / 2 := by
    rw [half_pow] at hx hy ⊢
    rcases hf with ⟨_, rfl⟩ | ⟨_, rfl⟩ | ⟨_, rfl⟩
    · exact Nat.lt_of_le_of_lt Nat.and_le_left hx
    · exact Nat.or_lt_two_pow hx hy
    · exact Nat.xor_lt_two_pow hx hy
  have hfit := fits_signed_nat hk hlt
  refine ⟨?_, hfit⟩
  have h1 := ofInt_toNat (k := k) x (half_lt k hx)
  have h2 := ofInt_toNat (k := k) y (half_lt k hy)
  rcases hf with ⟨rfl, rfl⟩ | ⟨rfl, rfl⟩ | ⟨rfl, rfl⟩
  · rw [run_and, h1, h2]; exact congrArg (fun z => Result.ok (Value.int k z) w) (wrap_fits hfit)
  · rw [run_or, h1, h2]; exact congrArg (fun z => Result.ok (Value.int k z) w) (wrap_fits hfit)
  · rw [run_xor, h1, h2]; exact congrArg (fun z => Result.ok (Value.int k z) w) (wrap_fits hfit)

theorem run_maskS {k : IntKind} (hk : uns k = false) {a : Int} {m : Nat} (hb : Fits k (.ofNat m)) (hm : isMask m = true) (t : TypeId) :
    (binOp .and t (.int k a) (.int k (.ofNat m))).run P w = .ok (.int k (a % .ofNat (m + 1))) w ∧ Fits k (a % .ofNat (m + 1)) := by
  obtain ⟨y, hy, hlt⟩ := signed_nat hk hb (Int.natCast_nonneg m)
  have e : m = y := Int.ofNat.inj hy
  subst e
  have hd : ((m + 1 : Nat) : Int) ∣ ((2 ^ k.bits : Nat) : Int) := by
    have h : 2 ^ Nat.log2 (m + 1) = m + 1 := Nat.eq_of_beq_eq_true hm
    have h2 : 2 ^ Nat.log2 (m + 1) ≤ 2 ^ k.bits := by rw [h, ← modulus_bits]; have := half_lt k hlt; omega
    have h3 : Nat.log2 (m + 1) ≤ k.bits := (Nat.pow_le_pow_iff_right (by decide)).1 h2
    have h4 := Nat.pow_dvd_pow 2 h3
    rw [h] at h4
    exact Int.natCast_dvd_natCast.2 h4
  have hv : (((BitVec.ofInt k.bits a).toNat &&& (BitVec.ofInt k.bits (m : Int)).toNat : Nat) : Int) = a % ((m + 1 : Nat) : Int) := by
    rw [ofInt_toNat m (half_lt k hlt), isMask_spec hm, BitVec.toNat_ofInt, Int.natCast_emod]
    have hp : (0 : Int) < ((2 ^ k.bits : Nat) : Int) := by exact_mod_cast Nat.pow_pos (by decide)
    rw [Int.toNat_of_nonneg (Int.emod_nonneg _ (by omega)), Int.emod_emod_of_dvd _ hd]
  obtain ⟨r, hr⟩ := Int.eq_ofNat_of_zero_le (Int.emod_nonneg a (show ((m + 1 : Nat) : Int) ≠ 0 by omega))
  have hr2 := Int.emod_lt_of_pos a (show (0 : Int) < ((m + 1 : Nat) : Int) by omega)
  have hfit : Fits k (a % ((m + 1 : Nat) : Int)) := by
    rw [hr]; exact fits_signed_nat hk (by omega)
  refine ⟨?_, hfit⟩
  show (binOp .and t (.int k a) (.int k (m : Int))).run P w = _
  rw [run_and, hv, wrap_fits hfit]; rfl

theorem arithS_sound {k : IntKind} (hk : uns k = false) {op : BinOp} {lx ly : Bool} {a b : Int} (ha : Fits k a) (hb : Fits k b) {n : Int} {C : List Prop}
    (h : arithS op k lx ly a b = some (n, C)) (hC : AllC C) (t : TypeId) :
    (binOp op t (.int k a) (.int k b)).run P w = .ok (.int k n) w ∧ Fits k n := by
  cases op <;> simp only [arithS, Option.some.injEq, Prod.mk.injEq, reduceCtorEq] at h
  case add => obtain ⟨rfl, rfl⟩ := h; have := hC.one; exact ⟨by rw [run_add, wrap_fits this], this⟩
  case sub => obtain ⟨rfl, rfl⟩ := h; have := hC.one; exact ⟨by rw [run_sub, wrap_fits this], this⟩
  case mul => obtain ⟨rfl, rfl⟩ := h; have := hC.one; exact ⟨by rw [run_mul, wrap_fits this], this⟩
  case quo =>
    split at h
    · simp at h; obtain ⟨rfl, _⟩ := h; exact run_quoS hk ha _ t
    · simp at h
  case rem =>
    split at h
    · simp at h; obtain ⟨rfl, _⟩ := h; exact run_remS hk ha _ t
    · simp only [Option.some.injEq, Prod.mk.injEq] at h
      obtain ⟨rfl, rfl⟩ := h
      have h0 := hC.one
      obtain ⟨m, rfl⟩ : ∃ m : Nat, b = Int.ofNat (m + 1) := ⟨b.toNat - 1, by show b = ((b.toNat - 1 + 1 : Nat) : Int); omega⟩
      exact run_remS hk ha m t
    · simp at h
  case and =>
    split at h
    · rename_i m he
      simp only [Option.some.injEq, Prod.mk.injEq] at h
      obtain ⟨rfl, rfl⟩ := h
      rw [Bool.and_eq_true] at he
      exact run_maskS hk hb he.2 t
    · simp only [Option.some.injEq, Prod.mk.injEq] at h
      obtain ⟨rfl, rfl⟩ := h
      obtain ⟨x, rfl, hx⟩ := signed_nat hk ha hC.one.1
      obtain ⟨y, rfl, hy⟩ := signed_nat hk hb hC.one.2
      rw [landN_spec]; simp only [Int.toNat_natCast]
      exact run_bitsS (f := (· &&& ·)) hk hx hy t (.inl ⟨rfl, rfl⟩)
  case or =>
    obtain ⟨rfl, rfl⟩ := h
    obtain ⟨x, rfl, hx⟩ := signed_nat hk ha hC.one.1
    obtain ⟨y, rfl, hy⟩ := signed_nat hk hb hC.one.2
    simp only [Int.toNat_natCast]
    exact run_bitsS (f := (· ||| ·)) hk hx hy t (.inr (.inl ⟨rfl, rfl⟩))
  case xor =>
    obtain ⟨rfl, rfl⟩ := h
    obtain ⟨x, rfl, hx⟩ := signed_nat hk ha hC.one.1
    obtain ⟨y, rfl, hy⟩ := signed_nat hk hb hC.one.2
    simp only [Int.toNat_natCast]
    exact run_bitsS (f := (· ^^^ ·)) hk hx hy t (.inr (.inr ⟨rfl, rfl⟩))

theorem arithL_sound {k : IntKind} (hk : uns k = false) {op : BinOp} {a b : Int} (ha : Fits k a) (hb : Fits k b) {n : Int}
    (h : arithL op k a b = some n) (t : TypeId) :
    (binOp op t (.int k a) (.int k b)).run P w = .ok (.int k n) w ∧ Fits k n := by
  cases op <;> simp only [arithL, Option.some.injEq, reduceCtorEq] at h
  case add => subst h; exact ⟨by simp [binOp, Op.intArith], fits_wrap _ _⟩
  case sub => subst h; exact ⟨by simp [binOp, Op.intArith], fits_wrap _ _⟩
  case mul => subst h; exact ⟨by simp [binOp, Op.intArith], fits_wrap _ _⟩
  case quo =>
    split at h
    · simp at h; subst h; exact run_quoS hk ha _ t
    · simp at h
  case rem =>
    split at h
    · simp at h; subst h; exact run_remS hk ha _ t
    · simp at h
  case and =>
    split at h
    · rename_i x y
      simp at h; subst h
      obtain ⟨x', e, hx⟩ := signed_nat hk ha (Int.natCast_nonneg x)
      obtain ⟨y', e', hy⟩ := signed_nat hk hb (Int.natCast_nonneg y)
      obtain rfl : x = x' := Int.ofNat.inj e
      obtain rfl : y = y' := Int.ofNat.inj e'
      exact run_bitsS (f := (· &&& ·)) hk hx hy t (.inl ⟨rfl, rfl⟩)
    · simp at h
  case or =>
    split at h
    · rename_i x y
      simp at h; subst h
      obtain ⟨x', e, hx⟩ := signed_nat hk ha (Int.natCast_nonneg x)
      obtain ⟨y', e', hy⟩ := signed_nat hk hb (Int.natCast_nonneg y)
      obtain rfl : x = x' := Int.ofNat.inj e
      obtain rfl : y = y' := Int.ofNat.inj e'
      exact run_bitsS (f := (· ||| ·)) hk hx hy t (.inr (.inl ⟨rfl, rfl⟩))
    · simp at h
  case xor =>
    split at h
    · rename_i x y
      simp at h; subst h
      obtain ⟨x', e, hx⟩ := signed_nat hk ha (Int.natCast_nonneg x)
      obtain ⟨y', e', hy⟩ := signed_nat hk hb (Int.natCast_nonneg y)
      obtain rfl : x = x' := Int.ofNat.inj e
      obtain rfl : y = y' := Int.ofNat.inj e'
      exact run_bitsS (f := (· ^^^ ·)) hk hx hy t (.inr (.inr ⟨rfl, rfl⟩))
    · simp at h

theorem cmpI_sound {op : BinOp} {k : IntKind} {a b : Int} {c : Bool} (h : cmpI op a b = some c) (t : TypeId) : (binOp op t (.int k a) (.int k b)).run P w = .ok (.bool c) w := by
  cases op <;> simp only [cmpI, Option.some.injEq, reduceCtorEq] at h <;> subst h <;> simp [binOp, Op.intCmp]
  all_goals rfl
end

theorem div_pow_fits {k : IntKind} {x : Int} (h : Fits k x) (n : Nat) : Fits k (x / 2 ^ n) := by
  have hp : (0 : Int) < 2 ^ n := Int.pow_pos (by decide)
  rcases Int.lt_or_le x 0 with h0 | h0
  · have h1 : x / 2 ^ n < 0 := Int.ediv_neg_of_neg_of_pos h0 hp
    have h2 : x ≤ x / 2 ^ n := by
      rw [Int.le_ediv_iff_mul_le hp]
      have : (1 : Int) ≤ 2 ^ n := hp
      have := Int.mul_le_mul_of_nonpos_left (show x ≤ 0 by omega) this
      omega
    unfold Fits at h ⊢
    have hmax : 0 ≤ k.max := by cases k <;> decide
    omega
  · have h1 : 0 ≤ x / 2 ^ n := Int.ediv_nonneg h0 (by omega)
    have h2 : x / 2 ^ n ≤ x := Int.ediv_le_self _ h0
    unfold Fits at h ⊢
    have hmin : k.min ≤ 0 := by cases k <;> decide
    omega

section
variable {P : Program} {w : World}

theorem run_shl (k yk : IntKind) (x y : Int) (h : 0 ≤ y) (t : TypeId) : (binOp .shl t (.int k x) (.int yk y)).run P w = .ok (.int k (k.wrap (x * 2 ^ min y.toNat k.bits))) w := by
  simp only [binOp]; rw [shift_shl_any k yk x y h]; rfl
theorem run_shr (k yk : IntKind) (x y : Int) (h : 0 ≤ y) (t : TypeId) : (binOp .shr t (.int k x) (.int yk y)).run P w = .ok (.int k (x / 2 ^ min y.toNat k.bits)) w := by
  simp only [binOp]; rw [shift_shr_any k yk x y h]; rfl

theorem shl_mod (x n m : Nat) : (x * 2 ^ min n m) % 2 ^ m = (x * 2 ^ n) % 2 ^ m := by
  rcases Nat.le_total n m with h | h
  · rw [Nat.min_eq_left h]
  · rw [Nat.min_eq_right h, Nat.mul_mod_left]
    obtain ⟨d, rfl⟩ := Nat.le.dest h
    rw [Nat.pow_add, ← Nat.mul_assoc, Nat.mul_right_comm, Nat.mul_mod_left]

theorem shr_min (x n m : Nat) (hx : x < 2 ^ m) : x / 2 ^ min n m = x / 2 ^ n := by
  rcases Nat.le_total n m with h | h
  · rw [Nat.min_eq_left h]
  · rw [Nat.min_eq_right h, Nat.div_eq_of_lt hx, Nat.div_eq_of_lt (Nat.lt_of_lt_of_le hx (Nat.pow_le_pow_right (by decide) h))]

theorem shiftI_sound {op : BinOp} {k k' : IntKind} {lx ly : Bool} {x y : Int} (hx : Fits k x) {n : Int} {C : List Prop} (h : shiftI op k lx ly x y = some (n, C)) (hC : AllC C) (t : TypeId) :
    (binOp op t (.int k x) (.int k' y)).run P w = .ok (.int k n) w ∧ Fits k n := by
  have uShl : uns k = true → 0 ≤ y → n = .ofNat ((x.toNat * 2 ^ y.toNat) % modulus k) → (binOp .shl t (.int k x) (.int k' y)).run P w = .ok (.int k n) w ∧ Fits k n := by
    rintro hk h0 rfl
    obtain ⟨a, rfl, ha⟩ := uns_nat hk hx
    refine ⟨?_, fits_ofNat hk (Nat.mod_lt _ (modulus_pos k))⟩
    rw [run_shl _ _ _ _ h0]
    have e : (a : Int) * 2 ^ min y.toNat k.bits = ((a * 2 ^ min y.toNat k.bits : Nat) : Int) := by simp
    rw [e, wrap_nat hk, modulus_bits, shl_mod]; rfl
  have uShr : uns k = true → 0 ≤ y → n = .ofNat (x.toNat / 2 ^ y.toNat) → (binOp .shr t (.int k x) (.int k' y)).run P w = .ok (.int k n) w ∧ Fits k n := by
    rintro hk h0 rfl
    obtain ⟨a, rfl, ha⟩ := uns_nat hk hx
    refine ⟨?_, fits_ofNat hk (Nat.lt_of_le_of_lt (Nat.div_le_self _ _) ha)⟩
    rw [run_shr _ _ _ _ h0]
    have e : (a : Int) / 2 ^ min y.toNat k.bits = ((a / 2 ^ min y.toNat k.bits : Nat) : Int) := by simp
    rw [e, shr_min _ _ _ (by rw [← modulus_bits]; exact ha)]; rfl
  have sShl : 0 ≤ y → y.toNat ≤ k.bits → n = k.wrap (x * 2 ^ y.toNat) → (binOp .shl t (.int k x) (.int k' y)).run P w = .ok (.int k n) w ∧ Fits k n := by
    rintro h0 h1 rfl
    exact ⟨by rw [run_shl _ _ _ _ h0, Nat.min_eq_left h1], fits_wrap _ _⟩
  have sShr : 0 ≤ y → y.toNat ≤ k.bits → n = x / 2 ^ y.toNat → (binOp .shr t (.int k x) (.int k' y)).run P w = .ok (.int k n) w ∧ Fits k n := by
    rintro h0 h1 rfl
    exact ⟨by rw [run_shr _ _ _ _ h0, Nat.min_eq_left h1], div_pow_fits hx _⟩
  have lit : ly = true → 0 ≤ y := by
    rintro rfl
    cases y with
    | ofNat m => exact Int.natCast_nonneg m
    | negSucc m => simp [shiftI] at h
  unfold shiftI at h
  split at h
  · simp at h
  · simp only at h
    cases ly
    all_goals
      simp only at h
      split at h
      · rename_i hk
        simp only [Option.some.injEq, Prod.mk.injEq] at h
        obtain ⟨rfl, rfl⟩ := h
        first
          | exact uShl hk hC.one rfl
          | exact uShl hk (lit rfl) rfl
      · rename_i hk
        simp only [Option.some.injEq, Prod.mk.injEq] at h
        obtain ⟨rfl, rfl⟩ := h
        first
          | exact uShr hk hC.one rfl
          | exact uShr hk (lit rfl) rfl
      · first
          | (simp only [Option.some.injEq, Prod.mk.injEq] at h; obtain ⟨rfl, rfl⟩ := h
             obtain ⟨h1, h2⟩ := hC.cons
             obtain ⟨h2, h3⟩ := h2.cons
             exact sShl h1 h2 (wrap_fits h3.one).symm)
          | (split at h
             · rename_i hb
               have hb := Nat.le_of_ble_eq_true hb
               split at h
               · simp only [Option.some.injEq, Prod.mk.injEq] at h; obtain ⟨rfl, rfl⟩ := h; exact sShl (lit rfl) hb rfl
               · simp only [Option.some.injEq, Prod.mk.injEq] at h; obtain ⟨rfl, rfl⟩ := h; exact sShl (lit rfl) hb (wrap_fits hC.one).symm
             · simp at h
             · rename_i hl; cases hl)
      · first
          | (simp only [Option.some.injEq, Prod.mk.injEq] at h; obtain ⟨rfl, rfl⟩ := h
             obtain ⟨h1, h2⟩ := hC.cons
             exact sShr h1 h2.one rfl)
          | (split at h
             · rename_i hb
               have hb := Nat.le_of_ble_eq_true hb
               simp only [Option.some.injEq, Prod.mk.injEq] at h; obtain ⟨rfl, rfl⟩ := h; exact sShr (lit rfl) hb rfl
             · simp at h
             · rename_i hl; cases hl)
      · simp at h
end

theorem symS_eq {op : BinOp} {k : IntKind} {lx ly : Bool} {x y n : Int} {C : List Prop} (h : shiftI op k lx ly x y = some (n, C)) : symS op k x y n = .int k n := by
  unfold shiftI at h
  unfold symS
  split at h
  · simp at h
  · simp only at h
    split at h
    · rename_i hk
      simp only [Option.some.injEq, Prod.mk.injEq] at h; obtain ⟨rfl, _⟩ := h
      rw [hk]; rfl
    · rename_i hk
      simp only [Option.some.injEq, Prod.mk.injEq] at h; obtain ⟨rfl, _⟩ := h
      rw [hk]; rfl
    · rename_i hk; rw [hk]
    · rename_i hk; rw [hk]
    · simp at h

/-! ### what an operation gives -/
def updAll : List (Nat × Option Body) → (Nat → Option Body) → Nat → Option Body
  | [], H => H
  | x :: r, H => updAll r (upH H x.1 x.2)
def newAll : List Body → Nat → (Nat → Option Body) → Nat → Option Body
  | [], _, H => H
  | b :: r, n, H => newAll r (n + 1) (upH H n (some b))
def newH (H : Nat → Option Body) (nx : Nat) (out : OpOut) : Nat → Option Body := newAll out.new nx (updAll out.upd H)

/-- a run that gives a value -/
def VOk (w0 : World) (O : Own) (ρ : Rho) (H : Nat → Option Body) (nx : Nat) (r : Result Value) (out : OpOut) : Prop :=
  ∃ v w' ρ' Φ', r = .ok v w' ∧ DenV w0 O ρ' out.val v ∧ Ext ρ ρ' ∧ (∀ id, ρ' id ≠ ρ id → nx ≤ id ∧ id < nx + out.new.length) ∧ RelH w0 O ρ' (newH H nx out) w' Φ'

def Fresh (ρ : Rho) (H : Nat → Option Body) (nx n : Nat) : Prop := ∀ id, nx ≤ id → id < nx + n → ρ id = none ∧ H id = none

section
variable {w0 : World} {O : Own} {ρ : Rho} {H : Nat → Option Body} {Φ : Nat → Foot} {w : World} {nx : Nat} {P : Program}

theorem VOk.pure (x : RelH w0 O ρ H w Φ) {r : Result Value} {v : Value} {c : SV} {C : List Prop} {rd : List Nat} (hr : r = .ok v w) (hd : DenV w0 O ρ c v) : VOk w0 O ρ H nx r { val := c, C, reads := rd } :=
  ⟨v, w, ρ, Φ, hr, hd, Ext.refl ρ, fun _ h => absurd rfl h, x⟩

theorem pureOut_eq {v : SV} {C : List Prop} {out : OpOut} (h : pureOut v C = some out) : out = { val := v, C } := by
  simp [pureOut] at h; exact h.symm

/-- the kinds of a type's cells -/
theorem numsAs_den : ∀ (ks : List IntKind) (cs : List SV) (ns : List Int) (vs : List Value), numsAs ks cs = some ns → DenL w0 O ρ cs vs → vs = List.zipWith Value.int ks ns ∧ ns.length = ks.length ∧ ∀ (i : Nat) (k : IntKind) (n : Int), ks[i]? = some k → ns[i]? = some n → Fits k n
  | [], [], ns, vs, h, hd => by simp [numsAs] at h; subst h; simp [DenL] at hd; subst hd; simp
  | [], _ :: _, _, _, h, _ => by simp [numsAs] at h
  | _ :: _, [], _, _, h, _ => by simp [numsAs] at h
  | k :: ks, c :: cs, ns, vs, h, hd => by
    simp only [numsAs] at h
    split at h
    · rename_i l k' n r h1 h2
      split at h
      · rename_i hk
        obtain rfl := kidx_inj hk
        simp only [Option.some.injEq] at h; subst h
        simp only [DenL] at hd
        obtain ⟨v, vr, rfl, g1, g2, g3⟩ := hd
        rw [num_den h1] at g1
        simp only [List.cons.injEq, and_true] at g1
        obtain ⟨rfl, g4⟩ := g1
        obtain ⟨e1, e2, e3⟩ := numsAs_den ks cs r vr h2 g3
        refine ⟨by simp [e1], by simp [e2], fun i k' n' h3 h4 => ?_⟩
        cases i with
        | zero => simp at h3 h4; subst h3; subst h4; exact g4
        | succ i => simp at h3 h4; exact e3 i k' n' h3 h4
      · simp at h
    · simp at h

def fitsAll (ks : List IntKind) (ns : List Int) : Prop := ∀ (i : Nat) (k : IntKind) (n : Int), ks[i]? = some k → ns[i]? = some n → Fits k n

theorem wf_fits (k : IntKind) (n : Int) : (Lit.int k n).wf = true ↔ Fits k n := by
  simp [Lit.wf, Fits]

theorem take_drop_zip {α : Type} (f : IntKind → Int → α) (ks : List IntKind) (ns : List Int) (a b : Nat) : ((List.zipWith f ks ns).drop a).take b = List.zipWith f ((ks.drop a).take b) ((ns.drop a).take b) := by
  rw [List.drop_zipWith, List.take_zipWith]

theorem fitsAll_sub {ks : List IntKind} {ns : List Int} (h : fitsAll ks ns) (a b : Nat) : fitsAll ((ks.drop a).take b) ((ns.drop a).take b) := by
  intro i k n h1 h2
  have e1 : ks[a + i]? = some k := by
    rw [List.getElem?_take] at h1; split at h1
    · rwa [List.getElem?_drop] at h1
    · simp at h1
  have e2 : ns[a + i]? = some n := by
    rw [List.getElem?_take] at h2; split at h2
    · rwa [List.getElem?_drop] at h2
    · simp at h2
  exact h _ _ _ e1 e2
end
end Go.Vx

namespace Go.Vx

/-! ### == on arrays and structs of numbers -/
theorem kindsT_len {P : Program} {d : Nat} {t : TypeId} {ks : List IntKind} (h : kindsT P d t = some ks) : ks.length = P.cellsOf t := by
  cases d with
  | zero => simp [kindsT] at h
  | succ d =>
    simp only [kindsT] at h
    split at h
    · split at h
      · rename_i hb; simp at h; subst h; exact Nat.eq_of_beq_eq_true hb
      · simp at h
    · simp at h

theorem chunks_flatten {α : Type} (sz : Nat) : ∀ (n : Nat) (L : List α), L.length = n * sz → ((List.range n).map fun i => (L.drop (i * sz)).take sz).flatten = L
  | 0, L, h => by simp at h; simp [h]
  | n + 1, L, h => by
    have hl : (L.drop sz).length = n * sz := by rw [List.length_drop, h, Nat.succ_mul]; omega
    have ih := chunks_flatten sz n (L.drop sz) hl
    rw [List.range_succ_eq_map, List.map_cons, List.flatten_cons, List.map_map]
    have e : (List.map ((fun i => List.take sz (List.drop (i * sz) L)) ∘ Nat.succ) (List.range n)) = (List.range n).map fun i => ((L.drop sz).drop (i * sz)).take sz := by
      apply List.map_congr_left
      intro i _
      simp only [Function.comp, List.drop_drop]
      rw [Nat.succ_mul, Nat.add_comm]
    rw [e, ih]
    simp

theorem repl_chunk {α : Type} (l : List α) : ∀ (n i : Nat), i < n → (((List.replicate n l).flatten).drop (i * l.length)).take l.length = l
  | 0, i, h => by omega
  | n + 1, 0, _ => by simp [List.replicate_succ]
  | n + 1, i + 1, h => by
    rw [List.replicate_succ, List.flatten_cons, Nat.succ_mul, Nat.add_comm, ← List.drop_drop, List.drop_left]
    exact repl_chunk l n i (by omega)

theorem mapM_some {α β : Type} {f : α → Option β} {g : α → β} : ∀ (l : List α), (∀ a ∈ l, f a = some (g a)) → l.mapM f = some (l.map g)
  | [], _ => by simp
  | a :: l, h => by
    simp [List.mapM_cons, h a (by simp), mapM_some l fun b hb => h b (by simp [hb])]

theorem keyLits_kinds {P : Program} : ∀ (d : Nat) (t : TypeId) (ks : List IntKind) (ns : List Int), kindsT P d t = some ks → ns.length = ks.length → fitsAll ks ns →
    P.keyLits d t (List.zipWith Value.int ks ns) = some (List.zipWith Lit.int ks ns)
  | 0, _, _, _, h, _, _ => by simp [kindsT] at h
  | d + 1, t, ks, ns, h, hl, hf => by
    have hlen := kindsT_len h
    simp only [kindsT] at h
    cases hu : P.underlying t with
    | none => simp [hu] at h
    | some kd =>
      cases kd <;> simp only [hu] at h <;> try (simp at h; done)
      case int k =>
        split at h
        · simp at h; subst h
          cases ns with
          | nil => simp at hl
          | cons n r =>
            obtain rfl : r = [] := by cases r <;> simp at hl; rfl
            have hw : (Lit.int k n).wf = true := (wf_fits k n).2 (hf 0 k n (by simp) (by simp))
            simp [Program.keyLits, hu, hw]
        · simp at h
      case array n e =>
        cases he : kindsT P d e with
        | none => simp [he] at h
        | some l =>
          simp only [he] at h
          split at h
          · simp at h; subst h
            have hsz := kindsT_len he
            have htot : (List.replicate n l).flatten.length = n * P.cellsOf e := by simp [hsz]
            unfold Program.keyLits
            simp only [hu]
            rw [if_pos (by rw [List.length_zipWith, hl, Nat.min_self]; exact hlen)]
            have hm : (List.range n).mapM (fun i => P.keyLits d e (((List.zipWith Value.int (List.replicate n l).flatten ns).drop (i * P.cellsOf e)).take (P.cellsOf e))) =
                some ((List.range n).map fun i => ((List.zipWith Lit.int (List.replicate n l).flatten ns).drop (i * P.cellsOf e)).take (P.cellsOf e)) := by
              apply mapM_some
              intro i hi
              have hi : i < n := by simpa using hi
              have hc := repl_chunk l n i hi
              rw [hsz] at hc
              rw [take_drop_zip, take_drop_zip, hc]
              apply keyLits_kinds d e l _ he
              · rw [List.length_take, List.length_drop, hl, htot]
                have := Nat.mul_le_mul_right (P.cellsOf e) (show i + 1 ≤ n from hi)
                rw [Nat.succ_mul] at this
                rw [hsz]; omega
              · have := fitsAll_sub hf (i * P.cellsOf e) (P.cellsOf e)
                rwa [hc] at this
            rw [hm]
            simp only [Option.map_some]
            rw [chunks_flatten]
            rw [List.length_zipWith, hl, Nat.min_self, htot]
          · simp at h
      case struct fs =>
        split at h
        · rename_i r hr
          split at hr
          · rename_i tot htf hall
            split at hr
            · rename_i ls hls
              simp only [Option.some.injEq] at hr
              subst hr
              split at h
              · simp only [Option.some.injEq] at h
                subst h
                unfold Program.keyLits
                simp only [hu]
                rw [if_pos ⟨by rw [List.length_zipWith, hl, Nat.min_self]; exact hlen, hall⟩]
                have key : ∀ (fl : List Field) (off : Nat) (tot : Nat) (ll : List (List IntKind)) (pre : List IntKind) (pn : List Int) (n2 : List Int), tightFields P fl off = some tot → fl.mapM (fun f => kindsT P d f.type) = some ll →
                    pre.length = off → pn.length = off → n2.length = ll.flatten.length → fitsAll ll.flatten n2 →
                    (fl.mapM fun f => P.keyLits d f.type (((List.zipWith Value.int (pre ++ ll.flatten) (pn ++ n2)).drop f.offset).take (P.cellsOf f.type))).map List.flatten = some (List.zipWith Lit.int ll.flatten n2) := by
                  intro fl
                  induction fl with
                  | nil =>
                    intro off tot ll pre pn n2 _ h2 _ _ h5 _
                    simp at h2; subst h2
                    simp
                  | cons f fl ih =>
                    intro off tot ll pre pn n2 h1 h2 h3 h4 h5 h6
                    simp only [tightFields] at h1
                    split at h1
                    · rename_i hoff
                      simp only [List.mapM_cons] at h2
                      cases hk : kindsT P d f.type with
                      | none => simp [hk] at h2
                      | some lk =>
                        cases hr : fl.mapM (fun f => kindsT P d f.type) with
                        | none => simp [hk, hr] at h2
                        | some lr =>
                          simp [hk, hr] at h2; subst h2
                          have hlk := kindsT_len hk
                          have hn2 : n2 = n2.take lk.length ++ n2.drop lk.length := (List.take_append_drop _ _).symm
                          have hle : lk.length ≤ n2.length := by rw [h5]; simp
                          have htl : (n2.take lk.length).length = lk.length := by rw [List.length_take]; omega
                          have ih' := ih (off + P.cellsOf f.type) tot lr (pre ++ lk) (pn ++ n2.take lk.length) (n2.drop lk.length) h1 hr (by simp [h3, hlk]) (by simp [h4, hlk]; omega) (by rw [List.length_drop, h5]; simp) ?_
                          · rw [List.append_assoc, List.append_assoc, ← hn2] at ih'
                            have hfirst : P.keyLits d f.type (((List.zipWith Value.int (pre ++ (lk :: lr).flatten) (pn ++ n2)).drop f.offset).take (P.cellsOf f.type)) = some (List.zipWith Lit.int lk (n2.take lk.length)) := by
                              rw [take_drop_zip, hoff]
                              have e1 : ((pre ++ (lk :: lr).flatten).drop off).take (P.cellsOf f.type) = lk := by
                                rw [← h3, List.drop_left, List.flatten_cons, ← hlk, List.take_left]
                              have e2 : ((pn ++ n2).drop off).take (P.cellsOf f.type) = n2.take lk.length := by
                                rw [← h4, List.drop_left, hlk]
                              rw [e1, e2]
                              apply keyLits_kinds d f.type lk _ hk htl
                              have := fitsAll_sub h6 0 lk.length
                              simpa using this
                            rw [List.mapM_cons, hfirst]
                            cases hm : fl.mapM (fun f => P.keyLits d f.type (((List.zipWith Value.int (pre ++ (lk ++ lr.flatten)) (pn ++ n2)).drop f.offset).take (P.cellsOf f.type))) with
                            | none => rw [hm] at ih'; simp at ih'
                            | some xs =>
                              rw [hm] at ih'
                              simp only [Option.map_some, Option.some.injEq] at ih'
                              simp only [List.flatten_cons]
                              rw [hm]
                              simp only [bind, Option.bind, pure, Option.map_some, List.flatten_cons, ih', Option.some.injEq]
                              rw (occs := .pos [3]) [hn2]
                              rw [List.zipWith_append htl.symm]
                          · have := fitsAll_sub h6 lk.length n2.length
                            intro i k n g1 g2
                            refine h6 (lk.length + i) k n ?_ ?_
                            · rw [List.flatten_cons, List.getElem?_append_right (by omega)]; simpa using g1
                            · rw [List.getElem?_drop] at g2; exact g2
                    · simp at h1
                have := key fs.toList 0 tot ls [] [] ns htf hls rfl rfl hl hf
                simpa using this
              · simp at h
            · simp at hr
          · simp at hr
        · simp at h

section
variable {w0 : World} {O : Own} {ρ : Rho} {H : Nat → Option Body} {Φ : Nat → Foot} {w : World} {nx : Nat} {P : Program}

theorem den_bool (b : Bool) : DenV w0 O ρ (.bool b) (.bool b) := by right; simp [isAggS, isAggV, DenC, Value.cells]
theorem den_sbool (b : Bool) : DenV w0 O ρ (.sbool b) (.bool b) := by right; simp [isAggS, isAggV, DenC, Value.cells]
theorem den_raw {v : Value} (h : isAggV v = false) : DenV w0 O ρ (.raw v) v := by
  right; refine ⟨by simp [isAggS, h], ?_⟩
  cases v <;> simp [DenC, Value.cells, isAggV] at h ⊢

theorem denV_agg {cs : List SV} {v : Value} (h : DenV w0 O ρ (.agg cs) v) : ∃ arr, v = .agg arr ∧ DenL w0 O ρ cs arr.toList := by
  rcases h with h | ⟨h1, h2⟩
  · cases h
  · cases v <;> simp [isAggS, isAggV] at h1
    rename_i arr
    exact ⟨arr, rfl, by simpa [DenC, Value.cells] using h2⟩

theorem den_agg {cs : List SV} {arr : Array Value} (h : DenL w0 O ρ cs arr.toList) : DenV w0 O ρ (.agg cs) (.agg arr) := by
  right; refine ⟨rfl, by simpa [DenC, Value.cells] using h⟩

theorem denV_cell {c : SV} {v : Value} (h : DenV w0 O ρ c v) (hc : c ≠ .any) (ha : isAggS c = false) : DenC w0 O ρ c [v] ∧ isAggV v = false := by
  rcases h with h | ⟨h1, h2⟩
  · exact absurd h hc
  · have hv : isAggV v = false := by rw [← h1]; exact ha
    refine ⟨?_, hv⟩
    cases v <;> simp [isAggV] at hv <;> simpa [Value.cells] using h2

theorem denV_raw {c v : Value} (h : DenV w0 O ρ (.raw c) v) : v = c := by
  obtain ⟨h1, _⟩ := denV_cell h (by simp) rfl
  simpa [DenC] using h1.1

theorem den_cell {c : SV} {v : Value} (ha : isAggS c = false) (hv : isAggV v = false) (h : DenC w0 O ρ c [v]) : DenV w0 O ρ c v := by
  right
  refine ⟨by rw [ha, hv], ?_⟩
  cases v <;> simp [isAggV] at hv <;> simpa [Value.cells] using h

theorem eqGuard_num (op : BinOp) (t : TypeId) (x y : Operand) (k k' : IntKind) (a b : Int) : (eqGuard op t x y (.int k a) (.int k' b)).run P w = .ok () w := by
  cases op <;> rfl

theorem run_eqlAgg {t : TypeId} {xs ys : Array Value} {ks : List IntKind} {as bs : List Int} (hk : P.keyTypeAt 8 t = true) (ha : isAggT P t = true) (hks : kindsT P 8 t = some ks)
    (hx : xs.toList = List.zipWith Value.int ks as) (hy : ys.toList = List.zipWith Value.int ks bs) (la : as.length = ks.length) (lb : bs.length = ks.length) (fa : fitsAll ks as) (fb : fitsAll ks bs) :
    (Op.equalIn 10000 t (.agg xs) (.agg ys)).run P w = .ok (decide (as = bs)) w := by
  have hf : ∀ (cs : Array Value) (ns : List Int), cs.toList = List.zipWith Value.int ks ns → ns.length = ks.length → (Value.agg cs).formed P t = true := by
    intro cs ns h1 h2
    have : cs.size = P.cellsOf t := by rw [← Array.length_toList, h1, List.length_zipWith, h2, Nat.min_self]; exact kindsT_len hks
    unfold isAggT at ha
    unfold Value.formed
    split at ha
    · rename_i hu; simp [hu, this]
    · rename_i hu; simp [hu, this]
    · simp at ha
  have l1 := keyLits_kinds 8 t ks as hks la fa
  have l2 := keyLits_kinds 8 t ks bs hks lb fb
  rw [← hx] at l1; rw [← hy] at l2
  obtain ⟨r, hr, hiff⟩ := run_equalIn_deep (P := P) 9992 8 t hk w 8 8 (.agg xs) (.agg ys) _ _ (hf xs as hx la) (hf ys bs hy lb) l1 l2
  rw [show (10000 : Nat) = 9992 + 8 from rfl, hr]
  congr 1
  rw [Bool.eq_iff_iff, hiff, decide_eq_true_iff]
  constructor
  · intro e
    have : ∀ (ks : List IntKind) (as bs : List Int), as.length = ks.length → bs.length = ks.length → List.zipWith Lit.int ks as = List.zipWith Lit.int ks bs → as = bs := by
      intro ks
      induction ks with
      | nil => intro as bs h1 h2 _; cases as <;> cases bs <;> simp at h1 h2; rfl
      | cons k ks ih =>
        intro as bs h1 h2 h3
        cases as with
        | nil => simp at h1
        | cons a as =>
          cases bs with
          | nil => simp at h2
          | cons b bs =>
            simp at h1 h2 h3
            rw [h3.1, ih as bs h1 h2 h3.2]
    exact this ks as bs la lb e
  · rintro rfl; rfl

theorem isPtr_den {c : SV} {v : Value} (h : DenV w0 O ρ c v) (hp : isPtr c = true) : ∃ a, v = .pointer (some a) := by
  cases c <;> simp [isPtr] at hp
  · obtain ⟨h1, _⟩ := denV_cell h (by simp) rfl
    simp only [DenC] at h1; obtain ⟨_, b, base, _, _, h1⟩ := h1; simp at h1; exact ⟨_, h1⟩
  · obtain ⟨h1, _⟩ := denV_cell h (by simp) rfl
    simp only [DenC] at h1; obtain ⟨_, b, base, _, _, h1⟩ := h1; simp at h1; exact ⟨_, h1⟩
  · obtain ⟨h1, _⟩ := denV_cell h (by simp) rfl
    simp only [DenC] at h1; obtain ⟨b, base, _, h1, _⟩ := h1; simp at h1; exact ⟨_, h1⟩

theorem isNil_den {c : SV} {v : Value} (h : DenV w0 O ρ c v) (hp : isNilPtr c = true) : v = .pointer none := by
  unfold isNilPtr at hp
  split at hp
  · exact denV_raw h
  · simp at hp

theorem run_eq_of {op : BinOp} {t : TypeId} {a b : Value} {r : Bool} (he : (binOp .eql t a b).run P w = .ok (.bool r) w) (hn : (binOp .neq t a b).run P w = .ok (.bool (!r)) w) {c : SV} (hc : DenV w0 O ρ c (.bool r))
    {out : OpOut} (h : eqOut op (some c) = some out) (x : RelH w0 O ρ H w Φ) :
    VOk w0 O ρ H nx ((binOp op t a b).run P w) out := by
  unfold eqOut at h
  split at h
  · rename_i e; cases e
    rw [pureOut_eq h]
    exact VOk.pure x he hc
  · rename_i b e; cases e; rw [pureOut_eq h]
    have := denV_bool hc (l := true) (b := b) rfl; cases this
    exact VOk.pure x hn (den_bool _)
  · rename_i b e; cases e; rw [pureOut_eq h]
    have := denV_bool hc (l := false) (b := b) rfl; cases this
    exact VOk.pure x hn (den_sbool _)
  · simp at h

def plainEq : Value → Bool
  | .int .. | .string _ | .float .. | .complex .. => false
  | _ => true

theorem run_eql_other {t : TypeId} {a b : Value} {r : Bool} (ha : plainEq a = true) (h : (Op.equal t a b).run P w = .ok r w) :
    (binOp .eql t a b).run P w = .ok (.bool r) w ∧ (binOp .neq t a b).run P w = .ok (.bool (!r)) w := by
  constructor
  all_goals
    cases a <;> simp [plainEq] at ha <;> simp [binOp, h]

theorem run_eq_nilnil (d : Nat) {t : TypeId} {ms : Array (String × TypeId)} (hu : P.underlying t = some (.interface ms)) : (Op.equalIn (d + 1) t .nilIface .nilIface).run P w = .ok true w := by
  simp [Op.equalIn, run_underlying hu]
theorem run_eq_ifacenil (d : Nat) {t t' : TypeId} {v : Value} {ms : Array (String × TypeId)} (hu : P.underlying t = some (.interface ms)) : (Op.equalIn (d + 1) t (.iface t' v) .nilIface).run P w = .ok false w := by
  simp [Op.equalIn, run_underlying hu]
theorem run_eq_funcnil (d : Nat) {t : TypeId} {fn : Fn} {A B : Array Value} {a b : Array TypeId} {c : Bool} (hu : P.underlying t = some (.func a b c)) : (Op.equalIn (d + 1) t (.func fn A B) .nilFunc).run P w = .ok false w := by
  simp [Op.equalIn, run_underlying hu]
theorem run_eq_ptrnil (d : Nat) {t e : TypeId} {a : Option Addr} (hu : P.underlying t = some (.pointer e)) : (Op.equalIn (d + 1) t (.pointer a) (.pointer none)).run P w = .ok a.isNone w := by
  cases a <;> simp [Op.equalIn, run_underlying hu]

theorem under_info' {t : TypeId} {d : TypeDesc} (h : P.underlying t = some d) : ∃ i, P.info? t = some i := by
  unfold Program.underlying at h
  cases hi : P.info? t with
  | none => simp [hi] at h
  | some i => exact ⟨i, rfl⟩
theorem run_eq_iface (d : Nat) {t T e : TypeId} {p : Addr} {ms : Array (String × TypeId)} {i j : TypeInfo} (hu : P.underlying t = some (.interface ms)) (hT : P.underlying T = some (.pointer e)) (hi : P.info? T = some i) (hc : i.comparable = true) (hj : P.info? e = some j) :
    (Op.equalIn (d + 2) t (.iface T (.pointer (some p))) (.iface T (.pointer (some p)))).run P w = .ok true w := by
  have h2 : (Op.equalIn (d + 1) T (.pointer (some p)) (.pointer (some p))).run P w = .ok true w := by
    by_cases hz : j.size = 0
    · simp [Op.equalIn, run_underlying hT, sizeOf, typeInfo, hj, hz]
    · simp [Op.equalIn, run_underlying hT, sizeOf, typeInfo, hj, hz, sameAddr]
  rw [Op.equalIn]
  simp only [Sem.run_bind, run_underlying hu, Result.andThen_ok]
  simp [typeInfo, hi, hc, h2]

theorem eqGuard_or (op : BinOp) (t : TypeId) (ox oy : Operand) (a b : Value) : (eqGuard op t ox oy a b).run P w = (eqGuard .eql t ox oy a b).run P w ∨ (eqGuard op t ox oy a b).run P w = .ok () w := by
  cases op <;> first | exact .inl rfl | exact .inr rfl

theorem eqGuard_plain (op : BinOp) (t : TypeId) (ox oy : Operand) {a b : Value} (g1 : isAggV a = false) (g2 : a ≠ .nilIface) : (eqGuard op t ox oy a b).run P w = .ok () w := by
  rcases eqGuard_or (P := P) (w := w) op t ox oy a b with h | h
  · rw [h]
    unfold eqGuard
    simp only [Bool.not_true, Bool.false_eq_true, if_false]
    cases a <;> simp [isAggV] at g1 g2 <;> rfl
  · exact h

theorem eqGuard_agg (op : BinOp) (t : TypeId) (ox oy : Operand) (a b : Array Value) (g : P.eqGuardType P.depth t = false) : (eqGuard op t ox oy (.agg a) (.agg b)).run P w = .ok () w := by
  rcases eqGuard_or (P := P) (w := w) op t ox oy (.agg a) (.agg b) with h | h
  · rw [h]
    unfold eqGuard
    simp [g]
  · exact h

theorem eqGuard_nil (op : BinOp) (t : TypeId) (ox oy : Operand) (g : (isConstO ox).or (isConstO oy) = true) : (eqGuard op t ox oy .nilIface .nilIface).run P w = .ok () w := by
  rcases eqGuard_or (P := P) (w := w) op t ox oy .nilIface .nilIface with h | h
  · rw [h]
    unfold eqGuard
    cases ox <;> cases oy <;> simp [isConstO] at g <;> simp
  · exact h

theorem binV_sound {op : BinOp} {t : TypeId} {ox oy : Operand} {c d : SV} {a b : Value} (hc : DenV w0 O ρ c a) (hd : DenV w0 O ρ d b) {out : OpOut}
    (h : binV P op t ((isConstO ox).or (isConstO oy)) c d = some out) (hC : AllC out.C) (x : RelH w0 O ρ H w Φ) :
    VOk w0 O ρ H nx ((do eqGuard op t ox oy a b; binOp op t a b : Sem Value).run P w) out := by
  unfold binV at h
  split at h
  · rename_i lx k a' ly k' b' h1 h2
    obtain ⟨rfl, fa⟩ := denV_num hc h1
    obtain ⟨rfl, fb⟩ := denV_num hd h2
    simp only [Sem.run_bind, eqGuard_num, Result.andThen_ok]
    have hsh : ∀ op', (op' = .shl ∨ op' = .shr) → (match shiftI op' k lx ly a' b' with | some (n, C) => pureOut (litOr (lx && ly) k n (symS op' k a' b' n)) C | none => none) = some out → VOk w0 O ρ H nx ((binOp op' t (.int k a') (.int k' b')).run P w) out := by
      intro op' _ h
      split at h
      · rename_i n C hs
        rw [pureOut_eq h] at hC ⊢
        obtain ⟨g1, g2⟩ := shiftI_sound (P := P) (w := w) (k' := k') fa hs hC t
        exact VOk.pure x g1 (den_litOr g2 (symS_eq hs))
      · simp at h
    split at h
    · exact hsh _ (.inl rfl) h
    · exact hsh _ (.inr rfl) h
    · rename_i hn1 hn2
      split at h
      · rename_i hk
        subst hk
        split at h
        · split at h
          · rename_i r hr
            rw [pureOut_eq h]
            exact VOk.pure x (cmpI_sound hr t) (den_mkBool _ _)
          · simp at h
        · split at h
          · rename_i hu
            split at h
            · rename_i n C hs
              rw [pureOut_eq h] at hC ⊢
              obtain ⟨g1, g2⟩ := arithU_sound (P := P) (w := w) hu fa fb hs hC t
              exact VOk.pure x g1 (den_litOr g2 (symU_eq hs))
            · simp at h
          · rename_i hu
            split at h
            · split at h
              · rename_i n hs
                rw [pureOut_eq h]
                obtain ⟨g1, g2⟩ := arithL_sound (P := P) (w := w) hu fa fb hs t
                exact VOk.pure x g1 (den_mkLit g2)
              · simp at h
            · split at h
              · rename_i n C hs
                rw [pureOut_eq h] at hC ⊢
                obtain ⟨g1, g2⟩ := arithS_sound (P := P) (w := w) hu fa fb hs hC t
                exact VOk.pure x g1 (den_int g2)
              · simp at h
      · simp at h
  · split at h
    · rename_i o ho
      simp only [Option.some.injEq] at h; subst h
      unfold eqIface at ho
      split at ho
      · rename_i T a1 T' b1 _
        obtain rfl := denV_raw hc
        obtain rfl := denV_raw hd
        split at ho
        · rename_i ms e hT hu hU
          obtain rfl := Nat.eq_of_beq_eq_true hT
          have key : (P.info? T).any (·.comparable) = true → (P.info? e).isSome = true → a1 = b1 → (Op.equal t (.iface T (.pointer (some a1))) (.iface T (.pointer (some b1)))).run P w = .ok true w := fun hi he ha => by
            subst ha
            obtain ⟨i, hi1⟩ := under_info' hU
            obtain ⟨j, hj1⟩ := Option.isSome_iff_exists.1 he
            have hcmp : i.comparable = true := by rw [hi1] at hi; simpa using hi
            exact run_eq_iface 9998 hu hU hi1 hcmp hj1
          split at ho
          · rename_i hi he
            rw [pureOut_eq ho] at hC ⊢
            have hr := key (by cases hq : P.info? T <;> simp [hq] at hi ⊢; exact hi) he (hC _ (by simp))
            simp only [Sem.run_bind, eqGuard_plain _ t ox oy (a := .iface T (.pointer (some a1))) (b := .iface T (.pointer (some b1))) rfl (by simp), Result.andThen_ok]
            exact VOk.pure x (run_eql_other rfl hr).1 (den_bool _)
          · rename_i hi he
            rw [pureOut_eq ho] at hC ⊢
            have hr := key (by cases hq : P.info? T <;> simp [hq] at hi ⊢; exact hi) he (hC _ (by simp))
            simp only [Sem.run_bind, eqGuard_plain _ t ox oy (a := .iface T (.pointer (some a1))) (b := .iface T (.pointer (some b1))) rfl (by simp), Result.andThen_ok]
            exact VOk.pure x (run_eql_other rfl hr).2 (den_bool _)
          · simp at ho
        · simp at ho
      · simp at ho
    rename_i _
    -- an equation
    have fin : ∀ (r : Bool) (v : SV), (eqGuard op t ox oy a b).run P w = .ok () w → (binOp .eql t a b).run P w = .ok (.bool r) w → (binOp .neq t a b).run P w = .ok (.bool (!r)) w → DenV w0 O ρ v (.bool r) →
        eqOut op (some v) = some out →
        VOk w0 O ρ H nx ((do eqGuard op t ox oy a b; binOp op t a b : Sem Value).run P w) out := by
      intro r v hg he hn hv h
      simp only [Sem.run_bind, hg, Result.andThen_ok]
      exact run_eq_of he hn hv h x
    have none_ : eqOut op none = some out → False := by
      intro h; unfold eqOut at h; split at h <;> simp_all
    unfold eqV at h
    split at h
    · -- arrays, structs
      obtain ⟨A, rfl, hA⟩ := denV_agg hc
      obtain ⟨B, rfl, hB⟩ := denV_agg hd
      split at h
      · rename_i ks hcond hks
        simp only [Bool.and_eq_true, Bool.not_eq_true'] at hcond
        split at h
        · rename_i as bs ha hb
          obtain ⟨e1, l1, f1⟩ := numsAs_den ks _ as _ ha hA
          obtain ⟨e2, l2, f2⟩ := numsAs_den ks _ bs _ hb hB
          have hr := run_eqlAgg (P := P) (w := w) hcond.1.1 hcond.2 hks e1 e2 l1 l2 f1 f2
          refine fin (decide (as = bs)) _ ?_ ?_ ?_ (den_sbool _) h
          · exact eqGuard_agg _ _ _ _ _ _ hcond.1.2
          · exact (run_eql_other rfl (show (Op.equal t _ _).run P w = _ from hr)).1
          · exact (run_eql_other rfl (show (Op.equal t _ _).run P w = _ from hr)).2
        · exact (none_ h).elim
      · exact (none_ h).elim
    · rename_i hag _
      split at h
      · rename_i lx a' ly b' h1 h2
        obtain rfl := denV_bool hc h1
        obtain rfl := denV_bool hd h2
        split at h
        · rename_i hu
          have hr := run_equal_bool (P := P) w t a' b' hu
          exact fin (a' == b') _ (eqGuard_plain _ _ _ _ rfl (by simp)) (run_eql_other rfl hr).1 (run_eql_other rfl hr).2 (den_mkBool _ _) h
        · exact (none_ h).elim
      · split at h
        · rename_i s s' _ _
          obtain rfl := denV_raw hc
          obtain rfl := denV_raw hd
          rw [← ByteArray.toList_eq, ← ByteArray.toList_eq] at h
          exact fin _ _ (eqGuard_plain _ _ _ _ rfl (by simp)) rfl rfl (den_sbool _) h
        · obtain rfl := denV_raw hc
          obtain rfl := denV_raw hd
          split at h
          · have hr : (Op.equal t .nilIface .nilIface).run P w = .ok true w := run_eq_nilnil 9999 (by assumption)
            refine fin true _ ?_ (run_eql_other rfl hr).1 (run_eql_other rfl hr).2 (den_bool _) h
            exact eqGuard_nil _ _ _ _ (by assumption)
          · exact (none_ h).elim
        · obtain rfl := denV_raw hc
          obtain rfl := denV_raw hd
          split at h
          · rename_i ms hu
            have hr : ∀ t' v, (Op.equal t (.iface t' v) .nilIface).run P w = .ok false w := fun t' v => run_eq_ifacenil 9999 hu
            exact fin false _ (eqGuard_plain _ _ _ _ rfl (by simp)) (run_eql_other rfl (hr _ _)).1 (run_eql_other rfl (hr _ _)).2 (den_bool _) h
          · exact (none_ h).elim
        · obtain ⟨hc1, _⟩ := denV_cell hc (by simp) rfl
          simp only [DenC] at hc1
          obtain ⟨A, B, hc1, _⟩ := hc1
          simp at hc1; subst hc1
          obtain rfl := denV_raw hd
          split at h
          · rename_i hu
            have hr : ∀ f, (Op.equal t (.func f A B) .nilFunc).run P w = .ok false w := fun f => run_eq_funcnil 9999 hu
            exact fin false _ (eqGuard_plain _ _ _ _ rfl (by simp)) (run_eql_other rfl (hr _)).1 (run_eql_other rfl (hr _)).2 (den_bool _) h
          · exact (none_ h).elim
        · split at h
          · rename_i e hnil hu hny
            obtain rfl := isNil_den hd hny
            split at h
            · rename_i hnx
              obtain rfl := isNil_den hc hnx
              have hr : (Op.equal t (.pointer none) (.pointer none)).run P w = .ok true w := run_eq_ptrnil 9999 hu
              exact fin true _ (eqGuard_plain _ _ _ _ rfl (by simp)) (run_eql_other rfl hr).1 (run_eql_other rfl hr).2 (den_bool _) h
            · rename_i hp _
              obtain ⟨p, rfl⟩ := isPtr_den hc hp
              have hr : (Op.equal t (.pointer (some p)) (.pointer none)).run P w = .ok false w := run_eq_ptrnil 9999 hu
              exact fin false _ (eqGuard_plain _ _ _ _ rfl (by simp)) (run_eql_other rfl hr).1 (run_eql_other rfl hr).2 (den_bool _) h
            · exact (none_ h).elim
          · exact (none_ h).elim
end
end Go.Vx

namespace Go.Vx
section
variable {w0 : World} {O : Own} {ρ : Rho} {H : Nat → Option Body} {Φ : Nat → Foot} {w : World} {nx : Nat} {P : Program}

theorem not_xor {k : IntKind} (hk : uns k = true) {m : Nat} (h : m < modulus k) : (BitVec.ofInt k.bits k.max).toNat ^^^ m = modulus k - 1 - m := by
  have e : (BitVec.ofInt k.bits k.max) = BitVec.allOnes k.bits := by
    cases k <;> simp [uns] at hk <;> decide
  have h2 : m = (BitVec.ofNat k.bits m).toNat := by
    rw [BitVec.toNat_ofNat, Nat.mod_eq_of_lt (by rw [← modulus_bits]; exact h)]
  rw [e]
  rw (occs := .pos [1]) [h2]
  rw [← BitVec.toNat_xor, BitVec.allOnes_xor, BitVec.toNat_not, ← h2, ← modulus_bits]

theorem unV_sound {op : UnOp} {c : SV} {a : Value} (hc : DenV w0 O ρ c a) {out : OpOut} (h : unV op c = some out) (hC : AllC out.C) (x : RelH w0 O ρ H w Φ) :
    VOk w0 O ρ H nx ((Op.unary op a).run P w) out := by
  cases op <;> simp only [unV] at h
  case not =>
    split at h
    · rename_i l b hb
      obtain rfl := denV_bool hc hb
      rw [pureOut_eq h]
      exact VOk.pure x rfl (den_mkBool _ _)
    · simp at h
  case neg =>
    split at h
    · rename_i l k n hn
      obtain ⟨rfl, hf⟩ := denV_num hc hn
      split at h
      · rename_i hk
        rw [pureOut_eq h]
        obtain ⟨m, rfl, hm⟩ := uns_nat hk hf
        refine VOk.pure x (v := .int k (k.wrap (0 - (m : Int)))) (by simp [Op.unary, Op.intArith]) ?_
        have hM := modulus_pos k
        have e : k.wrap (0 - (m : Int)) = Int.ofNat ((modulus k - m) % modulus k) := by
          rw [wrap_uns hk]
          have e : (0 : Int) - m = ((modulus k - m : Nat) : Int) - (modulus k : Int) := by omega
          rw [e, Int.sub_emod_right, ← Int.natCast_emod]; rfl
        rw [e]
        exact den_litOr (fits_ofNat hk (Nat.mod_lt _ hM)) rfl
      · split at h
        · rw [pureOut_eq h]
          exact VOk.pure x (v := .int k (k.wrap (0 - n))) (by simp [Op.unary, Op.intArith]) (den_mkLit (fits_wrap _ _))
        · rw [pureOut_eq h] at hC ⊢
          have := hC.one
          refine VOk.pure x (v := .int k (k.wrap (0 - n))) (by simp [Op.unary, Op.intArith]) ?_
          rw [Int.zero_sub, wrap_fits this]
          exact den_int this
    · simp at h
  case xor =>
    split at h
    · rename_i l k n hn
      obtain ⟨rfl, hf⟩ := denV_num hc hn
      split at h
      · rename_i hk
        rw [pureOut_eq h]
        obtain ⟨m, rfl, hm⟩ := uns_nat hk hf
        have hlt : modulus k - 1 - m < modulus k := by have := modulus_pos k; omega
        have hs : k.signed = false := by cases k <;> simp [uns] at hk <;> rfl
        refine VOk.pure x (v := .int k (k.wrap (((BitVec.ofInt k.bits k.max).toNat ^^^ (BitVec.ofInt k.bits (m : Int)).toNat : Nat) : Int))) ?_ ?_
        · rw [← BitVec.toNat_xor]
          simp only [Op.unary, hs, Bool.false_eq_true, if_false, Op.intBits]; rfl
        · rw [ofInt_toNat m hm, not_xor hk hm, wrap_lt hk hlt]
          exact den_litOr (fits_ofNat hk hlt) rfl
      · simp at h
    · simp at h
  case plus => simp at h

theorem convV_sound {src dst : TypeId} {c : SV} {a : Value} (hc : DenV w0 O ρ c a) {out : OpOut} (h : convV P src dst c = some out) (hC : AllC out.C) (x : RelH w0 O ρ H w Φ) :
    VOk w0 O ρ H nx ((convert src dst a).run P w) out := by
  unfold convV at h
  split at h
  · rename_i l k n d k' hn hu1 hu2
    obtain ⟨rfl, hf⟩ := denV_num hc hn
    have hr : (convert src dst (.int k n)).run P w = .ok (.int k' (k'.wrap n)) w := by
      cases d <;> simp [convert, run_underlying hu1, run_underlying hu2, Conv.intToInt]
    split at h
    · rename_i hk hk'
      obtain ⟨m, rfl, hm⟩ := uns_nat hk hf
      split at h
      · rename_i hle
        have hle := Nat.le_of_ble_eq_true hle
        rw [pureOut_eq h]
        refine VOk.pure x hr ?_
        rw [wrap_lt hk' (Nat.lt_of_lt_of_le hm hle)]
        exact den_mkNum (fits_ofNat hk' (Nat.lt_of_lt_of_le hm hle))
      · rw [pureOut_eq h]
        refine VOk.pure x hr ?_
        rw [wrap_nat hk']
        exact den_litOr (fits_ofNat hk' (Nat.mod_lt _ (modulus_pos k'))) rfl
    · rename_i hk hk'
      obtain ⟨m, rfl, hm⟩ := uns_nat hk hf
      split at h
      · rename_i hlt
        have hlt : modulus k < modulus k' := Nat.le_of_ble_eq_true hlt
        rw [pureOut_eq h]
        have hfit : Fits k' (m : Int) := by
          apply fits_signed_nat hk'
          revert hlt hm; cases k <;> simp [uns] at hk <;> cases k' <;> simp [uns] at hk' <;> simp [modulus] <;> omega
        refine VOk.pure x hr ?_
        rw [wrap_fits hfit]
        exact den_mkNum hfit
      · split at h
        · rw [pureOut_eq h]
          exact VOk.pure x hr (den_mkLit (fits_wrap _ _))
        · rw [pureOut_eq h] at hC ⊢
          refine VOk.pure x hr ?_
          rw [wrap_fits hC.one]
          exact den_int hC.one
    · rename_i hk hk'
      rw [pureOut_eq h]
      refine VOk.pure x hr ?_
      rw [← wrap_uns hk']
      exact den_litOr (fits_wrap _ _) (by rw [wrap_uns hk']; rfl)
    · split at h
      · rename_i hkk
        have hkk : k = k' := by simpa using hkk
        subst hkk
        rw [pureOut_eq h]
        refine VOk.pure x hr ?_
        rw [wrap_fits hf]; exact hc
      · simp at h
  · rename_i d hu1 hu2
    split at h
    · rename_i s
      obtain rfl := denV_raw hc
      rw [pureOut_eq h]
      refine VOk.pure x (v := .string s) ?_ (den_raw rfl)
      cases d <;> simp [convert, run_underlying hu1, run_underlying hu2]
    · simp at h
  · simp at h

/-! ### memory -/
theorem locOf_den {c : SV} {v : Value} (hc : DenV w0 O ρ c v) {id : Nat} {p : Loc} (h : locOf c = some (id, p)) :
    ∃ hd b base, ρ id = some hd ∧ hd.loc = some (b, base) ∧ v = .pointer (some (adr b (base + p.off))) := by
  cases c <;> simp [locOf] at h
  · obtain ⟨rfl, rfl⟩ := h
    obtain ⟨h1, _⟩ := denV_cell hc (by simp) rfl
    simp only [DenC] at h1
    obtain ⟨hd, b, base, e1, e2, e3⟩ := h1
    exact ⟨hd, b, base, e1, e2, by simp at e3; exact e3⟩
  · obtain ⟨rfl, rfl⟩ := h
    obtain ⟨h1, _⟩ := denV_cell hc (by simp) rfl
    simp only [DenC] at h1
    obtain ⟨hd, b, base, e1, e2, e3⟩ := h1
    exact ⟨hd, b, base, e1, e2, by simp at e3; exact e3⟩

theorem run_isAgg (t : TypeId) {d : TypeDesc} (h : P.underlying t = some d) : (isAgg t).run P w = .ok (isAggT P t) w := by
  unfold isAgg isAggT
  rw [Sem.run_bind, run_underlying h, h]
  cases d <;> rfl

theorem run_sizeOf (t : TypeId) {i : TypeInfo} (h : P.info? t = some i) : (sizeOf t).run P w = .ok (P.cellsOf t) w := by
  simp [sizeOf, typeInfo, h, Program.cellsOf]

theorem under_info {t : TypeId} {d : TypeDesc} (h : P.underlying t = some d) : ∃ i, P.info? t = some i := by
  unfold Program.underlying at h
  cases hi : P.info? t with
  | none => simp [hi] at h
  | some i => exact ⟨i, rfl⟩

/-- a variable is read -/
theorem run_loadVar (t : TypeId) {d : TypeDesc} (hu : P.underlying t = some d) {b o : Nat} {vs : List Value} (hl : vs.length = P.cellsOf t) (hv : ∀ j v, vs[j]? = some v → w.cell? (adr b (o + j)) = some v) :
    (isAggT P t = true → (loadVar t (adr b o)).run P w = .ok (.agg vs.toArray) w) ∧ (isAggT P t = false → ∀ v, vs = [v] → (loadVar t (adr b o)).run P w = .ok v w) := by
  obtain ⟨i, hi⟩ := under_info hu
  constructor
  · intro ha
    simp only [loadVar, Sem.run_bind, run_isAgg t hu, ha, Result.andThen_ok, if_true, run_sizeOf t hi]
    rw [← hl, run_loadCells_list w (adr b o) vs fun j v hj => by rw [adr_add]; exact hv j v hj]
    rfl
  · rintro ha v rfl
    have := hv 0 v (by simp)
    simp only [loadVar, Sem.run_bind, run_isAgg t hu, ha, Result.andThen_ok, Bool.false_eq_true, if_false]
    simp only [Nat.add_zero] at this
    simp [run_load, this]

theorem cellsV_den {c : SV} {v : Value} (hc : DenV w0 O ρ c v) (ho : (cellsV c).all oneCell = true) : DenL w0 O ρ (cellsV c) v.cells.toList := by
  cases c
  case agg cs => obtain ⟨arr, rfl, h⟩ := denV_agg hc; exact h
  all_goals
    first
      | (simp [cellsV, oneCell] at ho; done)
      | (obtain ⟨h1, h2⟩ := denV_cell hc (by simp) rfl
         have : v.cells.toList = [v] := by cases v <;> simp [isAggV] at h2 <;> rfl
         rw [this]
         simp only [cellsV, DenL]
         exact ⟨v, [], rfl, h1, h2, rfl⟩)

theorem oneCell_list {c : SV} {us : List Value} (h : oneCell c = true) (hd : DenC w0 O ρ c us) : ∃ u, us = [u] := by
  cases c <;> simp [oneCell] at h <;> simp only [DenC] at hd
  case raw v => exact ⟨_, hd.1⟩
  case sl => obtain ⟨a, cap, h1, _⟩ := hd; exact ⟨_, h1⟩
  case own => obtain ⟨a, b, cap, _, h1⟩ := hd; exact ⟨_, h1⟩
  case ro => obtain ⟨a, cap, h1, _⟩ := hd; exact ⟨_, h1⟩
  case roi => obtain ⟨a, cap, h1, _⟩ := hd; exact ⟨_, h1⟩
  case rob => obtain ⟨a, cap, h1, _⟩ := hd; exact ⟨_, h1⟩
  case ptr => obtain ⟨a, b, c, _, _, h1⟩ := hd; exact ⟨_, h1⟩
  case sptr => obtain ⟨a, b, c, _, _, h1⟩ := hd; exact ⟨_, h1⟩
  case rop => obtain ⟨a, b, c, h1, _⟩ := hd; exact ⟨_, h1⟩
  case func => obtain ⟨a, b, h1, _⟩ := hd; exact ⟨_, h1⟩
  case bool => exact ⟨_, hd⟩
  case sbool => exact ⟨_, hd⟩
  case lit => exact ⟨_, hd.1⟩
  case int => exact ⟨_, hd.1⟩

theorem oneCell_agg {c : SV} (h : oneCell c = true) : isAggS c = false := by cases c <;> simp [oneCell] at h <;> rfl

theorem loadAt_ptr (t : TypeId) (a : Addr) : (Instr.loadAt t (.pointer (some a))).run P w = (loadVar t a).run P w := by
  simp [Instr.loadAt, Instr.sureAddr]

theorem known_spec {t : TypeId} (h : knownT P t = true) : ∃ d, P.underlying t = some d := by
  unfold knownT at h; split at h
  · rename_i d hd; exact ⟨d, hd⟩
  · simp at h

theorem loadV_pure {t : TypeId} {c : SV} {a : Value} (hc : DenV w0 O ρ c a) {out : OpOut} (h : loadV P H t c = some out) (hC : AllC out.C) (x : RelH w0 O ρ H w Φ) :
    ∃ p v, a = .pointer (some p) ∧ (loadVar t p).run P w = .ok v w ∧ DenV w0 O ρ out.val v := by
  unfold loadV at h
  split at h
  · simp at h
  · rename_i hkn
    obtain ⟨d, hu⟩ := known_spec hkn
    split at h
    · rename_i v
      obtain ⟨h1, _⟩ := denV_cell hc (by simp) rfl
      simp only [DenC] at h1
      obtain ⟨b, o, us, e1, e2, e3⟩ := h1
      simp at e1; subst e1
      split at h
      · rename_i cs hagg
        split at h
        · rename_i hlen
          have hlen := Nat.eq_of_beq_eq_true hlen
          simp only [DenC] at e3
          have hl := (run_loadVar (w := w) t hu (b := b) (o := o) (vs := us) (by rw [e3.length, hlen]) (fun j v hj => e2.now x.frame j v hj)).1 hagg
          rw [pureOut_eq h]
          exact ⟨_, _, rfl, hl, den_agg (by simpa using DenL.mono (ext_none ρ) _ _ e3)⟩
        · simp at h
      · simp at h
      · rename_i hagg
        split at h
        · rename_i hone
          obtain ⟨u, rfl⟩ := oneCell_list hone e3
          obtain ⟨i, hi⟩ := under_info hu
          have hcell := e2.now x.frame 0 u (by simp)
          rw [pureOut_eq h]
          refine ⟨_, u, rfl, ?_, den_cell (oneCell_agg hone) (oneCell_den hone e3).2 (DenC.mono (ext_none ρ) _ _ e3)⟩
          simp only [loadVar, Sem.run_bind, run_isAgg t hu, hagg, Result.andThen_ok, Bool.false_eq_true, if_false]
          simp only [Nat.add_zero] at hcell
          simp [run_load, hcell]
        · simp at h
    · split at h
      · rename_i id p hloc
        obtain ⟨hd, b, base, e1, e2, rfl⟩ := locOf_den hc hloc
        split at h
        · rename_i bd hb
          split at h
          · rename_i vs C hr
            split at h
            · rename_i hagg
              simp only [Option.some.injEq] at h; subst h
              obtain ⟨l1, us, g1, g2⟩ := read_n x hb e1 e2 (p := p) _ _ _ _ hr hC
              have hl := (run_loadVar (w := w) t hu (b := b) (o := base + p.off) (vs := us) (by rw [g1.length, l1]) (fun j v hj => by have := g2 j v hj; simpa using this)).1 hagg
              exact ⟨_, _, rfl, hl, den_agg (by simpa using g1)⟩
            · rename_i v hagg
              split at h
              · rename_i hna
                simp only [Option.some.injEq] at h; subst h
                obtain ⟨l1, us, g1, g2⟩ := read_n x hb e1 e2 (p := p) _ _ _ _ hr hC
                simp only [DenL] at g1
                obtain ⟨u, r, rfl, k1, k2, k3⟩ := g1
                subst k3
                have hl := (run_loadVar (w := w) t hu (b := b) (o := base + p.off) (vs := [u]) (by simpa using l1) (fun j v hj => by have := g2 j v hj; simpa using this)).2 hagg u rfl
                exact ⟨_, _, rfl, hl, den_cell hna k2 k1⟩
              · simp at h
            · simp at h
          · simp at h
        · simp at h
      · simp at h

theorem loadV_same {t : TypeId} {c : SV} {out : OpOut} (h : loadV P H t c = some out) : out.upd = [] ∧ out.new = [] := by
  unfold loadV at h
  repeat' split at h
  all_goals first | (simp at h; done) | (simp only [pureOut, Option.some.injEq] at h; subst h; exact ⟨rfl, rfl⟩)

theorem loadV_sound {t : TypeId} {c : SV} {a : Value} (hc : DenV w0 O ρ c a) {out : OpOut} (h : loadV P H t c = some out) (hC : AllC out.C) (x : RelH w0 O ρ H w Φ) :
    VOk w0 O ρ H nx ((Instr.loadAt t a).run P w) out := by
  obtain ⟨p, v, rfl, h1, h2⟩ := loadV_pure hc h hC x
  obtain ⟨e1, e2⟩ := loadV_same h
  exact ⟨v, w, ρ, Φ, by rw [loadAt_ptr]; exact h1, h2, Ext.refl ρ, fun _ h => absurd rfl h, by simpa [newH, e1, e2, newAll, updAll] using x⟩

theorem posLoc_spec {p : Loc} (h : posLoc p = true) : ∀ m i sz j, p = .sym m i sz j → 0 < sz := by
  rintro m i sz j rfl
  exact Nat.le_of_ble_eq_true h

/-- an operation that gives no value -/
def UOk (w0 : World) (O : Own) (ρ : Rho) (H : Nat → Option Body) (nx : Nat) (r : Result Unit) (out : OpOut) : Prop :=
  ∃ w' ρ' Φ', r = .ok () w' ∧ DenV w0 O ρ' out.val undef ∧ Ext ρ ρ' ∧ (∀ id, ρ' id ≠ ρ id → nx ≤ id ∧ id < nx + out.new.length) ∧ RelH w0 O ρ' (newH H nx out) w' Φ'

theorem storeV_sound {t : TypeId} {c d : SV} {a b : Value} (hc : DenV w0 O ρ c a) (hd : DenV w0 O ρ d b) {out : OpOut} (h : storeV P H t c d = some out) (hC : AllC out.C) (x : RelH w0 O ρ H w Φ) :
    UOk w0 O ρ H nx ((Instr.storeAt t a b).run P w) out := by
  unfold storeV at h
  split at h
  · rename_i id p hloc
    obtain ⟨hd', b', base, e1, e2, rfl⟩ := locOf_den hc hloc
    split at h
    · rename_i bd hb
      split at h
      · rename_i hcond
        simp only [Bool.and_eq_true] at hcond
        obtain ⟨hlen, hone, hpos, hkn⟩ := hcond
        have hlen := Nat.eq_of_beq_eq_true hlen
        obtain ⟨td, hu⟩ := known_spec hkn
        obtain ⟨i, hi⟩ := under_info hu
        split at h
        · rename_i bd' C hw
          simp only [Option.some.injEq] at h; subst h
          have hdl := cellsV_den hd hone
          obtain ⟨w', g1, g2, _, _⟩ := run_storeCells P e1 e2 (posLoc_spec hpos) (cellsV d) b.cells.toList 0 H Φ w bd bd' C x hb hw hC hdl hone
          refine ⟨w', ρ, Φ, ?_, den_raw rfl, Ext.refl ρ, fun _ h => absurd rfl h, g2⟩
          have hsz : b.cells.size = P.cellsOf t := by rw [← Array.length_toList, hdl.length, hlen]
          simp only [Instr.storeAt, Instr.sureAddr, storeVar, Sem.run_bind, Sem.run_pure, Result.andThen_ok, run_sizeOf t hi, hsz, ne_eq, not_true_eq_false, if_false]
          exact g1
        · simp at h
      · simp at h
    · simp at h
  · simp at h

theorem boxV_sound {e : TypeId} {c : SV} {v : Value} (hc : DenV w0 O ρ c v) {out : OpOut} (h : boxV nx c = some out) (x : RelH w0 O ρ H w Φ) (hf : Fresh ρ H nx 1) :
    VOk w0 O ρ H nx ((do pure (.pointer (some (← newVar e v))) : Sem Value).run P w) out := by
  unfold boxV at h
  split at h
  · rename_i hone
    simp only [Option.some.injEq] at h; subst h
    have hn := (hf nx (Nat.le_refl _) (by omega)).1
    have hx := x.new (id := nx) hn (bd := .cells (cellsV c)) trivial (by intro l; simp) (vs := v.cells) (by simpa [cellsOf] using cellsV_den hc hone) e
    refine ⟨.pointer (some (adr w.heap.size 0)), _, _, _, ?_, ?_, Ext.up hn _, ?_, hx⟩
    · simp [newVar, newRow, adr]
    · refine den_cell rfl rfl ?_
      simp only [DenC]
      exact ⟨.at w.heap.size 0, w.heap.size, 0, by simp [upR], rfl, rfl⟩
    · intro id hid
      unfold upR at hid; split at hid
      · subst_vars; simp
      · exact absurd rfl hid
  · simp at h

theorem inRange_fits {k : IntKind} {n : Int} (h : inRange k n = true) : Fits k n := by
  unfold inRange at h
  split at h
  · rename_i m hk; exact fits_ofNat hk (Nat.le_of_ble_eq_true h)
  · simp at h
  · rename_i m hk; exact fits_signed_nat hk (Nat.le_of_ble_eq_true h)
  · rename_i m hk
    have h : m < modulus k / 2 := Nat.le_of_ble_eq_true h
    cases k <;> simp [uns] at hk <;> simp [modulus] at h <;> simp [Fits, IntKind.min, IntKind.max, IntKind.signed, IntKind.bits] <;> omega

theorem ofCells_den : ∀ (vs : List Value), vs.all oneV = true → DenL w0 O ρ (ofCells vs) vs
  | [], _ => by simp [ofCells, DenL]
  | v :: vs, h => by
    simp only [List.all_cons, Bool.and_eq_true] at h
    have ih := ofCells_den vs h.2
    simp only [ofCells, List.map_cons, DenL] at ih ⊢
    refine ⟨v, vs, rfl, ?_, ?_, ih⟩
    · cases v <;> simp [oneV] at h <;> try (simp [DenC, isAggV]; done)
      rename_i k n
      simp only
      cases hr : inRange k n
      · simp [DenC]
      · simp [mkLit_eq, DenC, inRange_fits hr]
    · cases v <;> simp [oneV] at h <;> rfl

theorem ofConst_den (v : Value) : DenV w0 O ρ (ofConst v) v := by
  unfold ofConst
  split
  · exact den_bool _
  · rename_i k n
    cases hr : inRange k n
    · left; rfl
    · exact den_mkLit (inRange_fits hr)
  · rename_i cs
    cases hr : cs.toList.all oneV
    · left; rfl
    · exact den_agg (ofCells_den _ hr)
  · rename_i h1 h2 h3
    cases v
    case agg cs => exact absurd rfl (h3 cs)
    all_goals exact den_raw rfl
end
end Go.Vx

namespace Go.Vx
section
variable {w0 : World} {O : Own} {ρ : Rho} {H : Nat → Option Body} {Φ : Nat → Foot} {w : World} {nx : Nat} {P : Program}

theorem DenL.sub {cs : List SV} {vs : List Value} (h : DenL w0 O ρ cs vs) (a b : Nat) : DenL w0 O ρ ((cs.drop a).take b) ((vs.drop a).take b) := by
  have hl := h.length
  refine DenL.mk (by simp [hl]) fun j c hc => ?_
  rw [List.getElem?_take] at hc
  split at hc
  · rename_i hj
    rw [List.getElem?_drop] at hc
    obtain ⟨v, h1, h2⟩ := h.get _ _ hc
    exact ⟨v, by rw [List.getElem?_take, if_pos hj, List.getElem?_drop]; exact h1, h2⟩
  · simp at hc

theorem MemAt.sub {b o : Nat} {us : List Value} (h : MemAt w0 O b o us) (a n : Nat) : MemAt w0 O b (o + a) ((us.drop a).take n) := by
  intro j v hj
  rw [List.getElem?_take] at hj
  split at hj
  · rw [List.getElem?_drop] at hj
    rw [Nat.add_assoc]; exact h _ _ hj
  · simp at hj

/-- a part of an aggregate's cells -/
theorem partV_sound {t : TypeId} {cs : List SV} {off : Nat} {v : SV} (h : partV P t cs off = some v) {vs : List Value} (hd : DenL w0 O ρ cs vs) :
    (∃ us, us.length ≤ P.cellsOf t ∨ True ∧ us = (vs.drop off).take us.length ∧ DenC w0 O ρ v us) ∧ ∃ u, (part t vs.toArray off).run P w = .ok u w ∧ DenV w0 O ρ v u := by
  unfold partV at h
  split at h
  · rename_i hk ha
    obtain ⟨d, hu⟩ := known_spec hk
    obtain ⟨i, hi⟩ := under_info hu
    split at h
    · simp only [Option.some.injEq] at h; subst h
      refine ⟨⟨(vs.drop off).take (P.cellsOf t), .inr ⟨trivial, by simp, by simp only [DenC]; exact hd.sub _ _⟩⟩, .agg ((vs.toArray).extract off (off + P.cellsOf t)), ?_, ?_⟩
      · simp only [part, Sem.run_bind, run_isAgg t hu, ha, Result.andThen_ok, if_true, run_sizeOf t hi]; rfl
      · refine den_agg ?_
        have e : ((vs.toArray).extract off (off + P.cellsOf t)).toList = (vs.drop off).take (P.cellsOf t) := by simp
        rw [e]; exact hd.sub _ _
    · simp at h
  · rename_i hk ha
    obtain ⟨d, hu⟩ := known_spec hk
    split at h
    · rename_i c hc
      split at h
      · rename_i hone
        simp only [Option.some.injEq] at h; subst h
        obtain ⟨u, g1, g2, g3⟩ := hd.get _ _ hc
        refine ⟨⟨[u], .inr ⟨trivial, ?_, g2⟩⟩, u, ?_, den_cell (oneCell_agg hone) g3 g2⟩
        · have := List.getElem?_eq_some_iff.1 g1
          obtain ⟨hlt, he⟩ := this
          rw [List.length_singleton, List.take_one, List.head?_drop, g1]; rfl
        · simp [part, run_isAgg t hu, ha, g1]
      · simp at h
    · simp at h
  · simp at h

theorem fieldOf_spec {t : TypeId} {f : Nat} {fd : Field} (h : fieldOf P t f = some fd) : ∃ fs, P.underlying t = some (.struct fs) ∧ fs[f]? = some fd := by
  unfold fieldOf at h
  split at h
  · rename_i fs hu; exact ⟨fs, hu, h⟩
  · simp at h

theorem rop_den {c : SV} {v : Value} (h : DenV w0 O ρ (.rop c) v) : ∃ b o us, v = .pointer (some (adr b o)) ∧ MemAt w0 O b o us ∧ DenC w0 O (fun _ => none) c us := by
  obtain ⟨h1, _⟩ := denV_cell h (by simp) rfl
  simp only [DenC] at h1
  obtain ⟨b, o, us, e1, e2, e3⟩ := h1
  exact ⟨b, o, us, by simpa using e1, e2, e3⟩

theorem den_rop {c : SV} {b o : Nat} {us : List Value} (h1 : MemAt w0 O b o us) (h2 : DenC w0 O (fun _ => none) c us) : DenV w0 O ρ (.rop c) (.pointer (some (adr b o))) :=
  den_cell rfl rfl (by simp only [DenC]; exact ⟨b, o, us, rfl, h1, h2⟩)

theorem ptr_den {id off : Nat} {v : Value} (h : DenV w0 O ρ (.ptr id off) v) : ∃ hd b base, ρ id = some hd ∧ hd.loc = some (b, base) ∧ v = .pointer (some (adr b (base + off))) := by
  obtain ⟨h1, _⟩ := denV_cell h (by simp) rfl
  simp only [DenC] at h1
  obtain ⟨hd, b, base, e1, e2, e3⟩ := h1
  exact ⟨hd, b, base, e1, e2, by simpa using e3⟩
theorem sptr_den {id m i sz j : Nat} {v : Value} (h : DenV w0 O ρ (.sptr id m i sz j) v) : ∃ hd b base, ρ id = some hd ∧ hd.loc = some (b, base) ∧ v = .pointer (some (adr b (base + (i * sz + j)))) := by
  obtain ⟨h1, _⟩ := denV_cell h (by simp) rfl
  simp only [DenC] at h1
  obtain ⟨hd, b, base, e1, e2, e3⟩ := h1
  exact ⟨hd, b, base, e1, e2, by simpa using e3⟩
theorem den_ptr {id off b base : Nat} {hd : Hd} (h1 : ρ id = some hd) (h2 : hd.loc = some (b, base)) {a : Addr} (h3 : a = adr b (base + off)) : DenV w0 O ρ (.ptr id off) (.pointer (some a)) :=
  den_cell rfl rfl (by simp only [DenC]; exact ⟨hd, b, base, h1, h2, by rw [h3]⟩)
theorem den_sptr {id m i sz j b base : Nat} {hd : Hd} (h1 : ρ id = some hd) (h2 : hd.loc = some (b, base)) {a : Addr} (h3 : a = adr b (base + (i * sz + j))) : DenV w0 O ρ (.sptr id m i sz j) (.pointer (some a)) :=
  den_cell rfl rfl (by simp only [DenC]; exact ⟨hd, b, base, h1, h2, by rw [h3]⟩)

theorem rop_part {t : TypeId} {cs : List SV} {off : Nat} {v : SV} (h : partV P t cs off = some v) {b o : Nat} {us : List Value} (hm : MemAt w0 O b o us) (hd : DenL w0 O ρ cs us) :
    ∃ us', MemAt w0 O b (o + off) us' ∧ DenC w0 O ρ v us' := by
  unfold partV at h
  split at h
  · split at h
    · simp only [Option.some.injEq] at h; subst h
      exact ⟨_, hm.sub off (P.cellsOf t), by simp only [DenC]; exact hd.sub _ _⟩
    · simp at h
  · split at h
    · rename_i c hc
      split at h
      · simp only [Option.some.injEq] at h; subst h
        obtain ⟨u, g1, g2, g3⟩ := hd.get _ _ hc
        refine ⟨[u], fun j x hj => ?_, g2⟩
        cases j with
        | zero => simp at hj; subst hj; exact hm _ _ g1
        | succ j => simp at hj
      · simp at h
    · simp at h
  · simp at h

theorem fieldAddrV_sound {t : TypeId} {c : SV} {f : Nat} {a : Value} (hc : DenV w0 O ρ c a) {out : OpOut} (h : fieldAddrV P t c f = some out) (x : RelH w0 O ρ H w Φ) :
    VOk w0 O ρ H nx ((Instr.fieldAt t a f).run P w) out := by
  unfold fieldAddrV at h
  split at h
  · rename_i fd hfd
    obtain ⟨fs, hu, hf⟩ := fieldOf_spec hfd
    split at h
    · simp at h
    · rename_i hz
      simp only [Bool.or_eq_false_iff, Bool.not_eq_false'] at hz
      obtain ⟨d, hud⟩ := known_spec hz.2
      obtain ⟨i, hi⟩ := under_info hud
      have hz1 : P.cellsOf fd.type ≠ 0 := fun e => by rw [e] at hz; simp at hz
      have run : ∀ b o, (Instr.fieldAt t (.pointer (some (adr b o))) f).run P w = .ok (.pointer (some (adr b (o + fd.offset)))) w := by
        intro b o
        simp [Instr.fieldAt, run_underlying hu, hf, Instr.sureAddr, fieldPlace, run_sizeOf _ hi, hz1, adr_add]
      split at h
      · obtain ⟨hd, b, base, e1, e2, rfl⟩ := ptr_den hc
        rw [pureOut_eq h]
        exact VOk.pure x (run _ _) (den_ptr e1 e2 (by rw [Nat.add_assoc]))
      · obtain ⟨hd, b, base, e1, e2, rfl⟩ := sptr_den hc
        rw [pureOut_eq h]
        exact VOk.pure x (run _ _) (den_sptr e1 e2 (by congr 1; omega))
      · obtain ⟨b, o, us, rfl, e2, e3⟩ := rop_den hc
        split at h
        · rename_i v hv
          obtain ⟨us', g1, g2⟩ := rop_part hv e2 (by simpa [DenC] using e3)
          rw [pureOut_eq h]
          exact VOk.pure x (run _ _) (den_rop g1 g2)
        · simp at h
      · simp at h
  · simp at h

theorem fieldV_sound {t : TypeId} {c : SV} {f : Nat} {a : Value} (hc : DenV w0 O ρ c a) {out : OpOut} (h : fieldV P t c f = some out) (x : RelH w0 O ρ H w Φ) :
    VOk w0 O ρ H nx ((Instr.field t a f).run P w) out := by
  unfold fieldV at h
  split at h
  · rename_i fd cs hfd
    obtain ⟨fs, hu, hf⟩ := fieldOf_spec hfd
    obtain ⟨arr, rfl, hA⟩ := denV_agg hc
    split at h
    · rename_i v hv
      obtain ⟨_, u, g1, g2⟩ := partV_sound (w := w) hv hA
      rw [pureOut_eq h]
      refine VOk.pure x ?_ g2
      simp [Instr.field, run_underlying hu, hf, asAgg]
      simpa using g1
    · simp at h
  · simp at h

theorem num_nat_of_lit {l : Bool} {k : IntKind} {i : Int} : True := trivial

theorem indexV_sound {t : TypeId} {c d : SV} {a b : Value} (hc : DenV w0 O ρ c a) (hd : DenV w0 O ρ d b) {out : OpOut} (h : indexV P t c d = some out) (hC : AllC out.C) (x : RelH w0 O ρ H w Φ) :
    VOk w0 O ρ H nx ((Instr.index t a b).run P w) out := by
  unfold indexV at h
  split at h
  · rename_i l k i n e hn hu
    obtain ⟨rfl, hf⟩ := denV_num hd hn
    split at h
    · rename_i cs
      obtain ⟨arr, rfl, hA⟩ := denV_agg hc
      split at h
      · rename_i i
        split at h
        · rename_i hlt
          have hlt : i < n := Nat.le_of_ble_eq_true hlt
          split at h
          · rename_i v hv
            obtain ⟨_, u, g1, g2⟩ := partV_sound (w := w) hv hA
            rw [pureOut_eq h]
            refine VOk.pure x ?_ g2
            have hkn : knownT P e = true := by unfold partV at hv; split at hv <;> simp_all
            obtain ⟨d', hud⟩ := known_spec hkn
            obtain ⟨inf, hi⟩ := under_info hud
            have h1 : (0 : Int) ≤ Int.ofNat i ∧ Int.ofNat i < (n : Int) := ⟨Int.natCast_nonneg i, Int.ofNat_lt.2 hlt⟩
            simp only [Instr.index, asIntOf, Sem.run_bind, Sem.run_pure, Result.andThen_ok, run_underlying hu, h1, and_self, if_true, run_sizeOf _ hi]
            simpa using g1
          · simp at h
        · simp at h
      · simp at h
      · split at h
        · rename_i v hkn hsz hp
          simp only [Bool.or_eq_false_iff, Bool.not_eq_false'] at hkn
          have hsz := Nat.eq_of_beq_eq_true hsz
          obtain ⟨d', hud⟩ := known_spec hkn.2
          obtain ⟨inf, hi⟩ := under_info hud
          rw [pureOut_eq h] at hC ⊢
          have h1 := hC.one
          have hlt : i.toNat < n := by omega
          obtain ⟨c0, l0, k0, n0, q1, q2, rfl⟩ := pick_spec hp hlt
          obtain ⟨u, g1, g2, g3⟩ := hA.get _ _ q1
          rw [num_den q2] at g2
          simp only [List.cons.injEq, and_true] at g2
          obtain ⟨rfl, hfit⟩ := g2
          refine VOk.pure x (v := .int k0 n0) ?_ (den_int hfit)
          have g1' : arr[i.toNat]? = some (.int k0 n0) := by simpa using g1
          simp only [Instr.index, asIntOf, Sem.run_bind, Sem.run_pure, Result.andThen_ok, run_underlying hu, h1, and_self, if_true, run_sizeOf _ hi, hsz, Nat.mul_one, part, run_isAgg e hud, hkn.1, Bool.false_eq_true, if_false, g1']
        · simp at h
    · simp at h
  · rename_i l k i hn hu
    obtain ⟨rfl, hf⟩ := denV_num hd hn
    split at h
    · rename_i s
      obtain rfl := denV_raw hc
      split at h
      · rename_i i
        split at h
        · rename_i bt hb
          rw [pureOut_eq h]
          have hlt : bt.toNat < modulus .u8 := bt.toNat_lt
          refine VOk.pure x (v := .int .u8 bt.toNat) ?_ (den_mkLit (fits_ofNat rfl hlt))
          have h0 : (0 : Int) ≤ Int.ofNat i := Int.natCast_nonneg i
          have hb' : s[i]? = some bt := by
            have : s.data[i]? = some bt := by simpa using hb
            exact this
          simp only [Instr.index, asIntOf, Sem.run_bind, Sem.run_pure, Result.andThen_ok, run_underlying hu, h0, if_true]
          rw [show (Int.ofNat i).toNat = i from rfl, hb']; rfl
        · simp at h
      · simp at h
    · simp at h
  · simp at h
end
end Go.Vx

namespace Go.Vx
section
variable {w0 : World} {O : Own} {ρ : Rho} {H : Nat → Option Body} {Φ : Nat → Foot} {w : World} {nx : Nat} {P : Program}

theorem run_indexArr {t e : TypeId} {n : Nat} (hu : P.underlying t = some (.array n e)) (he : knownT P e = true) {k : IntKind} {i : Int} (hi : 0 ≤ i ∧ i < n) (b o : Nat) :
    (Instr.indexAt t (.pointer (some (adr b o))) (.int k i)).run P w = .ok (.pointer (some (adr b (o + i.toNat * P.cellsOf e)))) w := by
  obtain ⟨d, hd⟩ := known_spec he
  obtain ⟨inf, hinf⟩ := under_info hd
  simp [Instr.indexAt, asIntOf, run_underlying hu, Instr.sureAddr, hi, run_sizeOf e hinf, adr_add]

theorem run_indexSl {t e : TypeId} (hu : P.underlying t = some (.slice e)) (he : knownT P e = true) {k : IntKind} {i : Int} {len cap : Nat} (hi : 0 ≤ i ∧ i < len) (b o : Nat) :
    (Instr.indexAt t (.slice (some (adr b o)) len cap) (.int k i)).run P w = .ok (.pointer (some (adr b (o + i.toNat * P.cellsOf e)))) w := by
  obtain ⟨d, hd⟩ := known_spec he
  obtain ⟨inf, hinf⟩ := under_info hd
  simp [Instr.indexAt, asIntOf, run_underlying hu, hi, run_sizeOf e hinf, adr_add]

theorem sl_den2 {id m off sz j len : Nat} {kn : Bool} {v : Value} (h : DenV w0 O ρ (.sl id m off sz j len kn) v) :
    ∃ a cap, v = .slice a len cap ∧ len ≤ cap ∧ ((kn = true → off + cap ≤ m) ∧ (a = none ∨ ∃ b o, a = some (adr b o))) ∧ (0 < len → ∃ hd b base, ρ id = some hd ∧ hd.loc = some (b, base) ∧ a = some (adr b (base + (off * sz + j)))) := by
  obtain ⟨h1, _⟩ := denV_cell h (by simp) rfl
  simp only [DenC] at h1
  obtain ⟨a, cap, e1, e2, e4, e3⟩ := h1
  exact ⟨a, cap, by simpa using e1, e2, e4, e3⟩
theorem sl_den {id m off sz j len : Nat} {kn : Bool} {v : Value} (h : DenV w0 O ρ (.sl id m off sz j len kn) v) :
    ∃ a cap, v = .slice a len cap ∧ len ≤ cap ∧ (0 < len → ∃ hd b base, ρ id = some hd ∧ hd.loc = some (b, base) ∧ a = some (adr b (base + (off * sz + j)))) :=
  let ⟨a, cap, h1, h2, _, h3⟩ := sl_den2 h
  ⟨a, cap, h1, h2, h3⟩

theorem own_den {id : Nat} {v : Value} (h : DenV w0 O ρ (.own id) v) : ∃ l len cap, ρ id = some (.sl l len cap) ∧ v = slV l len cap := by
  obtain ⟨h1, _⟩ := denV_cell h (by simp) rfl
  simp only [DenC] at h1
  obtain ⟨l, len, cap, e1, e2⟩ := h1
  exact ⟨l, len, cap, e1, by simpa [slV] using e2⟩

theorem own_at (x : RelH w0 O ρ H w Φ) {id : Nat} {bd : Body} (hb : H id = some bd) {l : Option (Nat × Nat)} {len cap : Nat} (hr : ρ id = some (.sl l len cap)) (hg : ∀ ks l, bd ≠ .grow ks l := by intro ks l; simp) :
    (∀ l, bd ≠ .log l) ∧ OwnAt w0 O ρ w bd l len cap (Φ id) := by
  obtain ⟨hd, h1, h2⟩ := x.holds id bd hb
  rw [hr] at h1; cases h1
  cases bd
  case grow ks l => exact absurd rfl (hg ks l)
  all_goals first | exact h2.elim | exact ⟨by intro l; simp, h2⟩
theorem own_atG (x : RelH w0 O ρ H w Φ) {id : Nat} {bd : Body} (hb : H id = some bd) {l : Option (Nat × Nat)} {len cap : Nat} (hr : ρ id = some (.sl l len cap)) :
    (∀ l, bd ≠ .log l) ∧ ∃ F0, OwnAt w0 O ρ w bd l len cap F0 := by
  obtain ⟨hd, h1, h2⟩ := x.holds id bd hb
  rw [hr] at h1; cases h1
  cases bd
  case grow ks l => obtain ⟨_, F0, _, h, _⟩ := h2; exact ⟨by intro l; simp, F0, h⟩
  all_goals first | exact h2.elim | exact ⟨by intro l; simp, _, h2⟩

theorem ro_den {sz n : Nat} {f : Nat → SV} {v : Value} (h : DenV w0 O ρ (.ro sz n f) v) : ∃ a cap, v = .slice a n cap ∧ n ≤ cap ∧ (0 < n → ∃ b o, a = some (adr b o) ∧ ∀ i, i < n → ∃ us : List Value, us.length = sz ∧ MemAt w0 O b (o + i * sz) us ∧ DenC w0 O (fun _ => none) (f i) us) := by
  obtain ⟨h1, _⟩ := denV_cell h (by simp) rfl
  simp only [DenC] at h1
  obtain ⟨a, cap, e1, e2, e3⟩ := h1
  exact ⟨a, cap, by simpa using e1, e2, e3⟩

theorem roi_den {k : IntKind} {l : List Int} {v : Value} (h : DenV w0 O ρ (.roi k l) v) : ∃ a cap, v = .slice a l.length cap ∧ l.length ≤ cap ∧ (0 < l.length → ∃ b o, a = some (adr b o) ∧ MemAt w0 O b o (l.map (Value.int k))) ∧ ∀ n, n ∈ l → Fits k n := by
  obtain ⟨h1, _⟩ := denV_cell h (by simp) rfl
  simp only [DenC] at h1
  obtain ⟨a, cap, e1, e2, e3, e4⟩ := h1
  exact ⟨a, cap, by simpa using e1, e2, e3, e4⟩
theorem rob_den {q : Nat} {k : IntKind} {l : List Int} {v : Value} (h : DenV w0 O ρ (.rob q k l) v) : ∃ a cap, v = .slice a l.length cap ∧ l.length ≤ cap ∧ (0 < l.length → ∃ b o, a = some (adr b o) ∧ q ≤ b ∧ MemAt w0 O b o (l.map (Value.int k))) ∧ ∀ n, n ∈ l → Fits k n := by
  obtain ⟨h1, _⟩ := denV_cell h (by simp) rfl
  simp only [DenC] at h1
  obtain ⟨a, cap, e1, e2, e3, e4⟩ := h1
  exact ⟨a, cap, by simpa using e1, e2, e3, e4⟩

theorem indexLitV_sound {t e : TypeId} {n : Nat} (hu : P.underlying t = some (.array n e)) (hk : knownT P e = true) {c : SV} {a : Value} (hc : DenV w0 O ρ c a) {k : IntKind} {i : Nat} {out : OpOut} (h : indexLitV P n e c i = some out) (x : RelH w0 O ρ H w Φ) :
    VOk w0 O ρ H nx ((Instr.indexAt t a (.int k (.ofNat i))).run P w) out := by
  unfold indexLitV at h
  split at h
  · rename_i hlt
    have hlt : i < n := Nat.le_of_ble_eq_true hlt
    have h1 : (0 : Int) ≤ Int.ofNat i ∧ Int.ofNat i < (n : Int) := ⟨Int.natCast_nonneg i, Int.ofNat_lt.2 hlt⟩
    split at h
    · obtain ⟨hd, b, base, e1, e2, rfl⟩ := ptr_den hc
      rw [pureOut_eq h]
      exact VOk.pure x (run_indexArr hu hk h1 _ _) (den_ptr e1 e2 (by rw [Nat.add_assoc]; rfl))
    · obtain ⟨hd, b, base, e1, e2, rfl⟩ := sptr_den hc
      split at h
      · rename_i hz
        simp only [Bool.and_eq_true] at hz
        have z1 := Nat.eq_of_beq_eq_true hz.1
        have z2 := Nat.eq_of_beq_eq_true hz.2
        subst z2
        rw [pureOut_eq h]
        refine VOk.pure x (run_indexArr hu hk h1 _ _) (den_sptr e1 e2 ?_)
        rw [z1, show (Int.ofNat i).toNat = i from rfl]; congr 1; omega
      · rw [pureOut_eq h]
        refine VOk.pure x (run_indexArr hu hk h1 _ _) (den_sptr e1 e2 ?_)
        rw [show (Int.ofNat i).toNat = i from rfl]; congr 1; omega
    · obtain ⟨b, o, us, rfl, e2, e3⟩ := rop_den hc
      split at h
      · rename_i v hv
        obtain ⟨us', g1, g2⟩ := rop_part hv e2 (by simpa [DenC] using e3)
        rw [pureOut_eq h]
        exact VOk.pure x (run_indexArr hu hk h1 _ _) (den_rop g1 g2)
      · simp at h
    · simp at h
  · simp at h

theorem indexSymV_sound {t e : TypeId} {n : Nat} (hu : P.underlying t = some (.array n e)) (hk : knownT P e = true) {c : SV} {a : Value} (hc : DenV w0 O ρ c a) {k : IntKind} {i : Int} {out : OpOut} (h : indexSymV P n e c i = some out) (hC : AllC out.C) (x : RelH w0 O ρ H w Φ) :
    VOk w0 O ρ H nx ((Instr.indexAt t a (.int k i)).run P w) out := by
  unfold indexSymV at h
  split at h
  · obtain ⟨hd, b, base, e1, e2, rfl⟩ := ptr_den hc
    rw [pureOut_eq h] at hC ⊢
    refine VOk.pure x (run_indexArr hu hk hC.one _ _) (den_sptr e1 e2 ?_)
    congr 1; omega
  · obtain ⟨hd, b, base, e1, e2, rfl⟩ := sptr_den hc
    split at h
    · rename_i hz
      simp only [Bool.and_eq_true] at hz
      have z1 := Nat.eq_of_beq_eq_true hz.1
      have z2 := Nat.eq_of_beq_eq_true hz.2
      subst z2
      rw [pureOut_eq h] at hC ⊢
      refine VOk.pure x (run_indexArr hu hk hC.one _ _) (den_sptr e1 e2 ?_)
      rw [z1]; congr 1; omega
    · simp at h
  · simp at h

theorem indexSlV_sound {t e : TypeId} (hu : P.underlying t = some (.slice e)) (hk : knownT P e = true) {c : SV} {a : Value} (hc : DenV w0 O ρ c a) {k : IntKind} {l : Bool} {i : Int} {out : OpOut} (h : indexSlV P H e c l i = some out) (hC : AllC out.C) (x : RelH w0 O ρ H w Φ) :
    VOk w0 O ρ H nx ((Instr.indexAt t a (.int k i)).run P w) out := by
  unfold indexSlV at h
  split at h
  · rename_i id m off sz j len kn
    obtain ⟨a', cap, rfl, g2, g3⟩ := sl_den hc
    split at h
    · rename_i hz
      have hz := Nat.eq_of_beq_eq_true hz
      split at h
      · unfold indexSlLitV at h
        split at h
        · rename_i hlt
          have hlt := Nat.le_of_ble_eq_true hlt
          have h1 : ∀ i : Nat, i < len → (0 : Int) ≤ Int.ofNat i ∧ Int.ofNat i < (len : Int) := fun i hi => ⟨Int.natCast_nonneg i, Int.ofNat_lt.2 hi⟩
          obtain ⟨hd, b, base, e1, e2, rfl⟩ := g3 (by omega)
          rw [pureOut_eq h]
          refine VOk.pure x (run_indexSl hu hk (h1 _ hlt) _ _) (den_ptr e1 e2 ?_)
          rw [hz, Nat.add_mul]; congr 1
          simp only [Int.ofNat_eq_natCast, Int.toNat_natCast]; omega
        · simp at h
      · simp at h
      · rw [pureOut_eq h] at hC ⊢
        have h1 := hC.one
        obtain ⟨hd, b, base, e1, e2, rfl⟩ := g3 (by omega)
        refine VOk.pure x (run_indexSl hu hk h1 _ _) (den_sptr e1 e2 ?_)
        rw [hz, Nat.add_mul]; congr 1; omega
    · simp at h
  · rename_i id
    obtain ⟨l', len, cap, e1, rfl⟩ := own_den hc
    split at h
    · rename_i bd hb
      simp only [Option.some.injEq] at h; subst h
      have h1 := hC.one
      obtain ⟨_, _, g1, g2, g3, g4⟩ := own_atG x hb e1
      cases l' with
      | none => simp only at g4; omega
      | some p =>
        obtain ⟨b, base⟩ := p
        rw [← g1] at h1
        exact VOk.pure x (run_indexSl hu hk h1 b base) (den_sptr e1 rfl rfl)
    · simp at h
  · rename_i k' vs
    obtain ⟨a', cap, rfl, g2, g3, g4⟩ := roi_den hc
    split at h
    · rename_i hz
      have hz := Nat.eq_of_beq_eq_true hz
      rw [pureOut_eq h] at hC ⊢
      have h1 := hC.one
      obtain ⟨b, o, rfl, g5⟩ := g3 (by omega)
      refine VOk.pure x (run_indexSl hu hk h1 b o) ?_
      have hlt : i.toNat < vs.length := by omega
      have hget := getD_get hlt 0
      refine den_rop (us := [.int k' (vs.getD i.toNat 0)]) ?_ (by simp only [DenC]; exact ⟨trivial, g4 _ (List.mem_of_getElem? hget)⟩)
      rw [hz, Nat.mul_one]
      intro j' v hj
      cases j' with
      | zero => simp at hj; subst hj; exact g5 i.toNat _ (by rw [List.getElem?_map, hget]; simp [List.getD])
      | succ j => simp at hj
    · simp at h
  · rename_i sz n f
    obtain ⟨a', cap, rfl, g2, g3⟩ := ro_den hc
    split at h
    · rename_i hz
      have hz := Nat.eq_of_beq_eq_true hz
      rw [pureOut_eq h] at hC ⊢
      have h1 := hC.one
      obtain ⟨b, o, rfl, g5⟩ := g3 (by omega)
      obtain ⟨us, u1, u2, u3⟩ := g5 i.toNat (by omega)
      refine VOk.pure x (run_indexSl hu hk h1 b o) ?_
      rw [hz]
      exact den_rop u2 u3
    · simp at h
  · simp at h

theorem indexAddrV_sound {t : TypeId} {c d : SV} {a b : Value} (hc : DenV w0 O ρ c a) (hd : DenV w0 O ρ d b) {out : OpOut} (h : indexAddrV P H t c d = some out) (hC : AllC out.C) (x : RelH w0 O ρ H w Φ) :
    VOk w0 O ρ H nx ((Instr.indexAt t a b).run P w) out := by
  unfold indexAddrV at h
  split at h
  · rename_i l k i hn
    obtain ⟨rfl, hf⟩ := denV_num hd hn
    split at h
    · rename_i n e hu
      split at h
      · rename_i hk; exact indexLitV_sound hu hk hc h x
      · rename_i hk; exact indexSymV_sound hu hk hc h hC x
      · simp at h
    · rename_i e hu
      split at h
      · rename_i hk; exact indexSlV_sound hu hk hc h hC x
      · simp at h
    · simp at h
  · simp at h

/-! ### slice expressions -/
/-- the bounds of a slice expression, as values -/
def BoundOk (w0 : World) (O : Own) (ρ : Rho) (c : Option SV) (v : Option Value) : Prop :=
  match c, v with
  | none, none => True
  | some c, some v => DenV w0 O ρ c v
  | _, _ => False

theorem boundsV_sound {known : Bool} {len cap : Nat} {lo hi : Option SV} {vlo vhi : Option Value} (hlo : BoundOk w0 O ρ lo vlo) (hhi : BoundOk w0 O ρ hi vhi) {kn : Bool} {l h : Nat} {C : List Prop}
    (hb : boundsV known len lo hi = some (kn, l, h, C)) (hC : AllC C) (hcap : len ≤ cap) (isSlice : Bool) :
    l ≤ h ∧ h ≤ len ∧ (Instr.sliceBounds isSlice len cap vlo vhi none).run P w = .ok (l, h, cap) w := by
  unfold boundsV at hb
  cases eL : loV lo with
  | none => simp [eL] at hb
  | some L =>
  cases eR : hiV known len hi with
  | none => simp [eL, eR] at hb
  | some R =>
  obtain ⟨kl, nl⟩ := L
  obtain ⟨kh, nh⟩ := R
  have hL : (vlo = none ∧ nl = 0) ∨ ∃ k, vlo = some (.int k nl) := by
    cases lo with
    | none => cases vlo with
      | none => simp [loV] at eL; exact .inl ⟨rfl, eL.2.symm⟩
      | some v => exact hlo.elim
    | some c => cases vlo with
      | none => exact hlo.elim
      | some v =>
        simp only [loV] at eL
        split at eL
        · rename_i l' k' n' hn
          simp at eL; obtain ⟨rfl, rfl⟩ := eL
          obtain ⟨rfl, _⟩ := denV_num (show DenV w0 O ρ c v from hlo) hn
          exact .inr ⟨_, rfl⟩
        · simp at eL
  have hR : (vhi = none ∧ nh = len) ∨ ∃ k, vhi = some (.int k nh) := by
    cases hi with
    | none => cases vhi with
      | none => simp [hiV] at eR; exact .inl ⟨rfl, eR.2.symm⟩
      | some v => exact hhi.elim
    | some c => cases vhi with
      | none => exact hhi.elim
      | some v =>
        simp only [hiV] at eR
        split at eR
        · rename_i l' k' n' hn
          simp at eR; obtain ⟨rfl, rfl⟩ := eR
          obtain ⟨rfl, _⟩ := denV_num (show DenV w0 O ρ c v from hhi) hn
          exact .inr ⟨_, rfl⟩
        · simp at eR
  have fin : ∀ l h : Nat, nl = (l : Int) → nh = (h : Int) → l ≤ h → h ≤ len → (Instr.sliceBounds isSlice len cap vlo vhi none).run P w = .ok (l, h, cap) w := by
    rintro l h rfl rfl h1 h2
    have a3 : h ≤ cap := by omega
    rcases hR with ⟨rfl, e⟩ | ⟨k, rfl⟩
    · obtain rfl : h = len := by omega
      rcases hL with ⟨rfl, e'⟩ | ⟨k, rfl⟩
      · obtain rfl : l = 0 := by omega
        rfl
      · simp [Instr.sliceBounds, Instr.sliceBound, asIntOf, h1]
    · rcases hL with ⟨rfl, e'⟩ | ⟨k', rfl⟩
      · obtain rfl : l = 0 := by omega
        simp [Instr.sliceBounds, Instr.sliceBound, asIntOf, a3]
      · simp [Instr.sliceBounds, Instr.sliceBound, asIntOf, a3, h1]
  simp only [eL, eR] at hb
  split at hb
  · split at hb
    · rename_i l' h'
      split at hb
      · rename_i hle
        simp only [Bool.and_eq_true] at hle
        have h1 := Nat.le_of_ble_eq_true hle.1
        have h2 := Nat.le_of_ble_eq_true hle.2
        simp only [Option.some.injEq, Prod.mk.injEq] at hb
        obtain ⟨_, rfl, rfl, _⟩ := hb
        exact ⟨h1, h2, fin _ _ rfl rfl h1 h2⟩
      · simp at hb
    · simp at hb
  · simp only [Option.some.injEq, Prod.mk.injEq] at hb
    obtain ⟨_, rfl, rfl, rfl⟩ := hb
    have := hC.one
    exact ⟨by omega, by omega, fin _ _ (by omega) (by omega) (by omega) (by omega)⟩
end
end Go.Vx
