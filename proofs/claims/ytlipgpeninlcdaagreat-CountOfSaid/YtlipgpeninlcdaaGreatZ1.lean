/-
A run of code, whose inputs are named: what each operation makes of them, as a function that the kernel reckons; what hangs on an input is told by both ways.
-/
import GoSem.Step
import GoSem.ClaimData
import Derived.OrdersHeld
namespace Go.Run
set_option linter.unusedVariables false
noncomputable def kn : IntKind → Nat
  | .i8 => 0 | .i16 => 1 | .i32 => 2 | .i64 => 3 | .u8 => 4 | .u16 => 5 | .u32 => 6 | .u64 => 7
noncomputable def ilt : Int → Int → Bool
  | .ofNat a, .ofNat b => Nat.blt a b
  | .ofNat _, .negSucc _ => false
  | .negSucc _, .ofNat _ => true
  | .negSucc a, .negSucc b => Nat.blt b a
noncomputable def ieq : Int → Int → Bool
  | .ofNat a, .ofNat b => Nat.beq a b
  | .negSucc a, .negSucc b => Nat.beq a b
  | _, _ => false
noncomputable def wr (k : IntKind) (n : Int) : Int := match k with
  | .u64 => n % 18446744073709551616
  | .i64 => match ilt n 9223372036854775808 && !(ilt n (-9223372036854775808)) with | true => n | false => IntKind.wrap .i64 n
  | k => IntKind.wrap k n
/-! terms over named inputs -/
inductive O1 where
  | not | wrap (k : IntKind) | neg | len | app (f : Nat)
inductive O2 where
  | add | sub | mul | quo | rem | shl (k : IntKind) | shr (k : IntKind) | and (k : IntKind) | or (k : IntKind) | xor (k : IntKind) | andNot (k : IntKind)
  | min | max | eq | lt | beq | all | rd | app (f : Nat)
inductive O3 where
  | set | app (f : Nat)
inductive X where
  | lit (n : Int)
  | bl (b : Bool)
  | v (i : Nat)
  | un (o : O1) (a : X)
  | bi (o : O2) (a b : X)
  | tr (o : O3) (a b c : X)
structure Dn where
  i : Int
  b : Bool
  r : List Int
structure Rho where
  v : Nat → Dn
  f1 : Nat → Dn → Dn
  f2 : Nat → Dn → Dn → Dn
  f3 : Nat → Dn → Dn → Dn → Dn
noncomputable def dI (n : Int) : Dn := ⟨n, false, []⟩
noncomputable def dB (b : Bool) : Dn := ⟨0, b, []⟩
noncomputable def O1.den (ρ : Rho) (a : Dn) : O1 → Dn
  | .not => dB !a.b
  | .wrap k => dI (k.wrap a.i)
  | .neg => dI (-a.i)
  | .len => dI a.r.length
  | .app f => ρ.f1 f a
noncomputable def O2.den (ρ : Rho) (a b : Dn) : O2 → Dn
  | .add => dI (a.i + b.i)
  | .sub => dI (a.i - b.i)
  | .mul => dI (a.i * b.i)
  | .quo => dI (a.i.tdiv b.i)
  | .rem => dI (a.i.tmod b.i)
  | .shl k => dI (a.i * 2 ^ (Nat.min b.i.toNat k.bits))
  | .shr k => dI (a.i.fdiv (2 ^ (Nat.min b.i.toNat k.bits)))
  | .and k => dI (BitVec.ofInt k.bits a.i &&& BitVec.ofInt k.bits b.i).toNat
  | .or k => dI (BitVec.ofInt k.bits a.i ||| BitVec.ofInt k.bits b.i).toNat
  | .xor k => dI (BitVec.ofInt k.bits a.i ^^^ BitVec.ofInt k.bits b.i).toNat
  | .andNot k => dI (BitVec.ofInt k.bits a.i &&& ~~~ BitVec.ofInt k.bits b.i).toNat
  | .min => dI (if b.i < a.i then b.i else a.i)
  | .max => dI (if a.i < b.i then b.i else a.i)
  | .eq => dB (a.i == b.i)
  | .lt => dB (decide (a.i < b.i))
  | .beq => dB (a.b == b.b)
  | .all => dB (a.b && b.b)
  | .rd => dI (a.r.getD b.i.toNat 0)
  | .app f => ρ.f2 f a b
noncomputable def O3.den (ρ : Rho) (a b c : Dn) : O3 → Dn
  | .set => ⟨0, false, a.r.set b.i.toNat c.i⟩
  | .app f => ρ.f3 f a b c
noncomputable def X.den (ρ : Rho) : X → Dn
  | .lit n => dI n
  | .bl p => dB p
  | .v i => ρ.v i
  | .un o a => o.den ρ (a.den ρ)
  | .bi o a b => o.den ρ (a.den ρ) (b.den ρ)
  | .tr o a b c => o.den ρ (a.den ρ) (b.den ρ) (c.den ρ)
noncomputable def O1.same : O1 → O1 → Bool
  | .not, .not => true
  | .wrap k, .wrap k' => Nat.beq (kn k) (kn k')
  | .neg, .neg => true
  | .len, .len => true
  | .app f, .app g => Nat.beq f g
  | _, _ => false
noncomputable def O2.same : O2 → O2 → Bool
  | .add, .add => true | .sub, .sub => true | .mul, .mul => true | .quo, .quo => true | .rem, .rem => true
  | .shl k, .shl k' => Nat.beq (kn k) (kn k') | .shr k, .shr k' => Nat.beq (kn k) (kn k')
  | .and k, .and k' => Nat.beq (kn k) (kn k') | .or k, .or k' => Nat.beq (kn k) (kn k') | .xor k, .xor k' => Nat.beq (kn k) (kn k') | .andNot k, .andNot k' => Nat.beq (kn k) (kn k')
  | .min, .min => true | .max, .max => true | .eq, .eq => true | .lt, .lt => true | .beq, .beq => true | .all, .all => true | .rd, .rd => true
  | .app f, .app g => Nat.beq f g
  | _, _ => false
noncomputable def O3.same : O3 → O3 → Bool
  | .set, .set => true
  | .app f, .app g => Nat.beq f g
  | _, _ => false
noncomputable def bsame : Bool → Bool → Bool
  | true, x => x
  | false, true => false
  | false, false => true
noncomputable def X.same : X → X → Bool
  | .lit m, .lit n => ieq m n
  | .bl p, .bl q => bsame p q
  | .v i, .v j => Nat.beq i j
  | .un o a, .un o' a' => match O1.same o o' with | true => X.same a a' | false => false
  | .bi o a b, .bi o' a' b' => match O2.same o o' with | true => (match X.same a a' with | true => X.same b b' | false => false) | false => false
  | .tr o a b c, .tr o' a' b' c' => match O3.same o o' with | true => (match X.same a a' with | true => (match X.same b b' with | true => X.same c c' | false => false) | false => false) | false => false
  | _, _ => false
noncomputable def X.wr (k : IntKind) : X → X
  | .lit n => .lit (Run.wr k n)
  | e => .un (.wrap k) e
noncomputable def X.two (f : Int → Int → Int) (o : O2) : X → X → X
  | .lit m, .lit n => .lit (f m n)
  | a, b => .bi o a b
noncomputable def X.eq (a b : X) : X := match a, b with
  | .lit m, .lit n => .bl (ieq m n)
  | a, b => match X.same a b with | true => .bl true | false => .bi .eq a b
noncomputable def X.lt (a b : X) : X := match a, b with
  | .lit m, .lit n => .bl (ilt m n)
  | a, b => .bi .lt a b
noncomputable def X.not : X → X
  | .bl p => .bl !p
  | .un .not a => a
  | a => .un .not a
noncomputable def X.all (a b : X) : X := match a with
  | .bl true => b
  | .bl false => .bl false
  | a => match b with
    | .bl true => a
    | .bl false => .bl false
    | b => .bi .all a b
noncomputable def X.beq (a b : X) : X := match a with
  | .bl true => b
  | .bl false => X.not b
  | a => match b with
    | .bl true => a
    | .bl false => X.not a
    | b => .bi .beq a b
noncomputable def X.neg : X → X
  | .lit n => .lit (-n)
  | a => .un .neg a
inductive Cap where
  | n (c : Nat)
  | u (i d : Nat)
inductive V where
  | bool (b : X)
  | int (k : IntKind) (n : X)
  | ptr (b off : Nat)
  | nil
  | sl (b off len : Nat) (cap : Cap)
  | nsl
  | esl
  | fn (f : Nat) (fst cap : List V)
  | nfn
  | ifc (t : Nat) (v : V)
  | nif
  | agg (cs : List V)
  | tup (vs : List V)
  | und
/-- A row of things by number. -/
inductive PT (α : Type) where
  | e
  | n (l : PT α) (v : Option α) (r : PT α)
noncomputable def PT.get {α : Type} (t : PT α) : Nat → Option α :=
  PT.rec (motive := fun _ => Nat → Option α) (fun _ => none) (fun _ v _ l r k => Bool.rec (motive := fun _ => Option α) (Bool.rec (motive := fun _ => Option α) (r (Nat.div (Nat.pred k) 2)) (l (Nat.div k 2)) (Nat.beq (Nat.mod k 2) 1)) v (Nat.beq k 0)) t
noncomputable def PT.l {α : Type} : PT α → PT α | .e => .e | .n l _ _ => l
noncomputable def PT.r {α : Type} : PT α → PT α | .e => .e | .n _ _ r => r
noncomputable def PT.v {α : Type} : PT α → Option α | .e => none | .n _ v _ => v
noncomputable def PT.set {α : Type} : Nat → PT α → Nat → Option α → PT α
  | 0, t, _, _ => t
  | f + 1, t, k, x => match t with
    | .e => match Nat.beq k 0 with
      | true => .n .e x .e
      | false => match Nat.beq (Nat.mod k 2) 1 with
        | true => .n (PT.set f .e (Nat.div k 2) x) none .e
        | false => .n .e none (PT.set f .e (Nat.div (Nat.pred k) 2) x)
    | .n l v r => match Nat.beq k 0 with
      | true => .n l x r
      | false => match Nat.beq (Nat.mod k 2) 1 with
        | true => .n (PT.set f l (Nat.div k 2) x) v r
        | false => .n l v (PT.set f r (Nat.div (Nat.pred k) 2) x)
/-- A block: its cells from the first one on; if there are more, the room. -/
structure Ob where
  cells : List V
  e : Nat
  more : Option (Cap × Nat)
noncomputable def nAgg : TypeDesc → Bool
  | .struct _ | .array _ _ => false
  | _ => true
/-- A frame: the kept places (those of nv's bits), and the others, the last one first. -/
structure Fm where
  nv : Nat
  v : PT V
  t : List (Nat × Option V)
noncomputable def scan (l : List (Nat × Option V)) (j : Nat) : Option V :=
  List.rec (motive := fun _ => Option V) none (fun p _ ih => Prod.rec (motive := fun _ => Option V) (fun k x => Bool.rec (motive := fun _ => Option V) ih x (Nat.beq k j)) p) l
noncomputable def isN (m j : Nat) : Bool := Nat.beq (Nat.land (Nat.shiftRight m j) 1) 1
noncomputable def Fm.get (F : Fm) (j : Nat) : Option V := match F with
  | ⟨nv, v, t⟩ => match isN nv j with | true => v.get j | false => scan t j
noncomputable def Fm.nil : Fm := ⟨0, .e, []⟩
noncomputable def lk (F : Fm) (j : Nat) : Option V := F.get j
noncomputable def PT.put {α : Type} (t : PT α) (k : Nat) (x : Option α) : PT α := PT.set (Nat.succ k) t k x
noncomputable def Fm.put (F : Fm) (j : Nat) (x : Option V) : Fm := match F with
  | ⟨nv, v, t⟩ => match isN nv j with | true => ⟨nv, v.put j x, t⟩ | false => ⟨nv, v, (j, x) :: t⟩
/-- The named places alone. -/
noncomputable def Fm.fresh (F : Fm) : Fm := match F with | ⟨nv, v, _⟩ => ⟨nv, v, []⟩
noncomputable def ofC : Value → Option V
  | .bool b => some (.bool (.bl b))
  | .int k n => some (.int k (.lit n))
  | .pointer none => some .nil
  | .slice none 0 0 => some .nsl
  | .nilFunc => some .nfn
  | .nilIface => some .nif
  | _ => none
noncomputable def ofCs : List Value → Option (List V)
  | [] => some []
  | x :: r => match ofC x with
    | some v => match ofCs r with | some vs => some (v :: vs) | none => none
    | none => none
noncomputable def eo (F : Fm) : Operand → Option V
  | .tmp t => lk F t
  | .const v => ofC v
  | .func f => some (.fn f [] [])
  | .global _ => none
noncomputable def isC : Operand → Bool
  | .const _ => true
  | _ => false
noncomputable def eos (F : Fm) : List Operand → Option (List V)
  | [] => some []
  | x :: r => match eo F x with
    | some v => match eos F r with | some vs => some (v :: vs) | none => none
    | none => none
noncomputable def nth {α : Type} (l : List α) : Nat → Option α :=
  List.rec (motive := fun _ => Nat → Option α) (fun _ => none) (fun x _ ih k => Bool.rec (motive := fun _ => Option α) (ih (Nat.pred k)) (some x) (Nat.beq k 0)) l
/-! what a program says of its types -/
noncomputable def szv (P : Program) (t : TypeId) : Option Nat := match P.info? t with | some i => some i.size | none => none
noncomputable def zv (P : Program) (t : TypeId) : Option (List V) := match P.info? t with
  | some i => match i.zero with | some z => ofCs z.cells.toList | none => none
  | none => none
noncomputable def agv (P : Program) (t : TypeId) : Option Bool := match P.underlying t with | some d => some !(nAgg d) | none => none
noncomputable def elv (P : Program) (t : TypeId) : Option TypeId := match P.underlying t with | some (.slice e) => some e | _ => none
noncomputable def fdv (P : Program) (t : TypeId) (f : Nat) : Option Field := match P.underlying t with | some (.struct fs) => nth fs.toList f | _ => none
noncomputable def ikv (P : Program) (t : TypeId) : Option IntKind := match P.underlying t with | some (.int k) => some k | _ => none
noncomputable def tk {α : Type} : Nat → List α → List α
  | 0, _ => []
  | n + 1, [] => []
  | n + 1, x :: r => x :: tk n r
noncomputable def dp {α : Type} : Nat → List α → List α
  | 0, l => l
  | _ + 1, [] => []
  | n + 1, _ :: r => dp n r
noncomputable def ln {α : Type} (l : List α) : Nat :=
  List.rec (motive := fun _ => Nat) 0 (fun _ _ ih => Nat.succ ih) l
noncomputable def ap {α : Type} (l m : List α) : List α :=
  List.rec (motive := fun _ => List α) m (fun x _ ih => x :: ih) l
/-- A part of cells said anew; none: there is not so much room. -/
noncomputable def upd : List V → Nat → List V → Option (List V)
  | l, off, vs => match Nat.ble (Nat.add off (ln vs)) (ln l) with
    | true => some (ap (tk off l) (ap vs (dp (Nat.add off (ln vs)) l)))
    | false => none
/-- All of a part's cells; none: there are not so many. -/
noncomputable def prt (l : List V) (off n : Nat) : Option (List V) := match Nat.ble (Nat.add off n) (ln l) with
  | true => some (tk n (dp off l))
  | false => none
noncomputable def cells : V → List V
  | .agg cs => cs
  | v => [v]
noncomputable def one : V → Bool
  | .agg _ => false
  | .tup _ => false
  | .und => false
  | _ => true
noncomputable def ones : List V → Bool
  | [] => true
  | v :: r => match one v with | true => ones r | false => false
/-- Two values of a whole number's type, or of a bool's. -/
noncomputable def eqd (d : Option TypeDesc) (x y : V) : Option X := match d with
  | some (.int _) => (match x, y with
    | .int k m, .int k' q => (match Nat.beq (kn k) (kn k') with | true => some (X.eq m q) | false => none)
    | _, _ => none)
  | some .bool => (match x, y with
    | .bool a, .bool b => some (X.beq a b)
    | _, _ => none)
  | _ => none
/-- Structs of whole numbers and bools. -/
noncomputable def eqF (P : Program) : List Field → Nat → List V → List V → Option X
  | [], _, [], [] => some (.bl true)
  | f :: r, k, a :: cs, b :: ds => match Nat.beq f.offset k && !(f.name == "_"), eqd (P.underlying f.type) a b, eqF P r (Nat.succ k) cs ds with
    | true, some e, some s => some (X.all e s)
    | _, _, _ => none
  | _, _, _, _ => none
noncomputable def eqA (d : Option TypeDesc) : List V → List V → Option X
  | [], [] => some (.bl true)
  | a :: cs, b :: ds => match eqd d a b, eqA d cs ds with
    | some e, some s => some (X.all e s)
    | _, _ => none
  | _, _ => none
noncomputable def eqv (P : Program) (t : Nat) (k : Bool) (x y : V) : Option X := match P.underlying t with
  | some (.int k) => eqd (some (.int k)) x y
  | some .bool => eqd (some .bool) x y
  | some (.pointer _) => (match x, y with
    | .ptr _ _, .nil => some (.bl false)
    | .nil, .nil => some (.bl true)
    | _, _ => none)
  | some (.func _ _ _) => (match x, y with
    | .nfn, .nfn => some (.bl true)
    | .fn _ _ _, .nfn => some (.bl false)
    | _, _ => none)
  | some (.interface _) => (match x, y, k with
    | .ifc _ _, .nif, _ => some (.bl false)
    | .nif, .nif, true => some (.bl true)
    | _, _, _ => none)
  | some (.slice _) => (match x, y with
    | .sl _ _ _ _, .nsl => some (.bl false)
    | .esl, .nsl => some (.bl false)
    | .nsl, .nsl => some (.bl true)
    | _, _ => none)
  | some (.struct fs) => (match x, y with
    | .agg cs, .agg ds => (match P.eqGuardType P.depth t, P.stoodInHeld t with | false, false => eqF P fs.toList 0 cs ds | _, _ => none)
    | _, _ => none)
  | some (.array len e) => (match x, y with
    | .agg cs, .agg ds => (match P.eqGuardType P.depth t, szv P e, Nat.beq (ln cs) len, Nat.beq (ln ds) len with | false, some 1, true, true => eqA (P.underlying e) cs ds | _, _, _, _ => none)
    | _, _ => none)
  | _ => none
noncomputable def bin (P : Program) (op : BinOp) (t : Nat) (c : Bool) (x y : V) : Option V := match op with
  | .eql => match eqv P t c x y with | some b => some (.bool b) | none => none
  | .neq => match eqv P t c x y with | some b => some (.bool (X.not b)) | none => none
  | .shl => match x, y with
    | .int k m, .int _ q => some (.int k (X.wr k (X.two (fun m q => m * 2 ^ (Nat.min q.toNat k.bits)) (.shl k) m q)))
    | _, _ => none
  | .shr => match x, y with
    | .int k m, .int _ q => some (.int k (X.two (fun m q => m.fdiv (2 ^ (Nat.min q.toNat k.bits))) (.shr k) m q))
    | _, _ => none
  | op => match x, y with
    | .int k m, .int k' q => match Nat.beq (kn k) (kn k') with
      | false => none
      | true => match op with
        | .add => some (.int k (X.wr k (X.two (· + ·) .add m q)))
        | .sub => some (.int k (X.wr k (X.two (· - ·) .sub m q)))
        | .mul => some (.int k (X.wr k (X.two (· * ·) .mul m q)))
        | .lss => some (.bool (X.lt m q))
        | .leq => some (.bool (X.not (X.lt q m)))
        | .gtr => some (.bool (X.lt q m))
        | .geq => some (.bool (X.not (X.lt m q)))
        | .quo => some (.int k (X.wr k (X.two Int.tdiv .quo m q)))
        | .rem => some (.int k (X.two Int.tmod .rem m q))
        | .and => some (.int k (X.wr k (X.two (fun m q => (BitVec.ofInt k.bits m &&& BitVec.ofInt k.bits q).toNat) (.and k) m q)))
        | .or => some (.int k (X.wr k (X.two (fun m q => (BitVec.ofInt k.bits m ||| BitVec.ofInt k.bits q).toNat) (.or k) m q)))
        | .xor => some (.int k (X.wr k (X.two (fun m q => (BitVec.ofInt k.bits m ^^^ BitVec.ofInt k.bits q).toNat) (.xor k) m q)))
        | .andNot => some (.int k (X.wr k (X.two (fun m q => (BitVec.ofInt k.bits m &&& ~~~ BitVec.ofInt k.bits q).toNat) (.andNot k) m q)))
        | _ => none
    | _, _ => none
noncomputable def pack (agg : Bool) (cs : List V) : Option V := match agg with
  | true => some (.agg cs)
  | false => match cs with | [v] => some v | _ => none
/-- The cells that an address and a size name. -/
noncomputable def ldc (H : PT Ob) (b off n : Nat) : Option (List V) := match H.get b with
  | some o => prt o.cells off n
  | none => none
noncomputable def fillG (pl : Nat → Option (Nat × Nat)) : List V → List (Nat × V) → Option (List V)
  | z, [] => some z
  | z, (i, v) :: r => match pl i with
    | some (off, sz) => match Nat.beq (ln (cells v)) sz, upd z off (cells v) with
      | true, some z' => fillG pl z' r
      | _, _ => none
    | none => none
/-- The places of a struct's fields. -/
noncomputable def plc (P : Program) : List Field → Option (List (Nat × Nat))
  | [] => some []
  | f :: r => match szv P f.type, plc P r with
    | some m, some q => some ((f.offset, m) :: q)
    | _, _ => none
noncomputable def isIf (P : Program) (t : TypeId) : Option Bool := match P.underlying t with | some (.interface _) => some true | some _ => some false | none => none
noncomputable def lent (P : Program) (ts : Array TypeId) : Bool := match ts.toList with | t :: _ => (match elv P t with | some _ => true | none => false) | [] => false
noncomputable def rep {α : Type} : Nat → List α → List α
  | 0, _ => []
  | n + 1, z => ap z (rep n z)
noncomputable def eps (F : Fm) : List (Nat × Operand) → Option (List (Nat × V))
  | [] => some []
  | (i, x) :: r => match eo F x with
    | some v => match eps F r with | some vs => some ((i, v) :: vs) | none => none
    | none => none
noncomputable def optN (F : Fm) : Option Operand → Option (Option Nat)
  | none => some none
  | some x => match eo F x with
    | some (.int _ (.lit (.ofNat n))) => some (some n)
    | _ => none
noncomputable def capLe (n : Nat) (len : Nat) : Cap → Bool
  | .n c => Nat.ble n c
  | .u _ _ => Nat.ble n len
noncomputable def capSub (d : Nat) : Cap → Cap
  | .n c => .n (Nat.sub c d)
  | .u i e => .u i (Nat.add e d)
noncomputable def if' (b : Bool) (x y : V) : V := match b with | true => x | false => y
noncomputable def zvv (P : Program) (t : TypeId) : Option V := match P.info? t with
  | some i => match i.zero with | some z => ofC z | none => none
  | none => none
noncomputable def hasM (got : List Method) : List (String × TypeId) → Bool
  | [] => true
  | p :: r => match got.any (fun m => m.name == p.1 && m.sig == p.2) with | true => hasM got r | false => false
/-- Is it of the type that is asked for? -/
noncomputable def tas (P : Program) (u : TypeId) (v : V) : Option Bool := match P.underlying u, v with
  | some (.interface _), .nif => some false
  | some (.interface want), .ifc t _ => match P.info? t with | some i => some (hasM i.methods.toList want.toList) | none => none
  | some _, .nif => some false
  | some _, .ifc t _ => some (Nat.beq t u)
  | _, _ => none
noncomputable def asV (P : Program) (u : TypeId) (v : V) : Option V := match P.underlying u, v with
  | some (.interface _), v => some v
  | some _, .ifc _ x => some x
  | _, _ => none
/-- A part of a row: from l to h; m: its room's end. -/
noncomputable def slv (b off len : Nat) (cap : Cap) (sz l h : Nat) (mx : Option Nat) (ok : Bool) : Option (V × Option Nat) :=
  match ok, Nat.ble l h, capLe h len cap with
  | true, true, true => match mx with
    | none => match cap with
      | .n c => some (.sl b (match Nat.beq l c with | true => off | false => Nat.add off (Nat.mul l sz)) (Nat.sub h l) (.n (Nat.sub c l)), none)
      | .u i d => match Nat.beq l 0 || Nat.blt l len with
        | true => some (.sl b (Nat.add off (Nat.mul l sz)) (Nat.sub h l) (.u i (Nat.add d l)), none)
        | false => match Nat.beq l h with
          | true => some (.esl, none)
          | false => none
    | some m => match Nat.ble h m, capLe m len cap with
      | true, true => some (.sl b (match Nat.beq l m with | true => off | false => Nat.add off (Nat.mul l sz)) (Nat.sub h l) (.n (Nat.sub m l)), none)
      | _, _ => none
  | _, _, _ => none
noncomputable def iMin (m q : Int) : Int := match ilt q m with | true => q | false => m
noncomputable def iMax (m q : Int) : Int := match ilt m q with | true => q | false => m
noncomputable def isMinMax : List V → Bool → Option V
  | [.int k m, .int k' q], lo => match Nat.beq (kn k) (kn k') with
    | true => some (.int k (match lo with | true => X.two iMin .min m q | false => X.two iMax .max m q))
    | false => none
  | _, _ => none
noncomputable def bsel (b : Bool) (u v : V) : V := match b with | true => u | false => v
noncomputable def q_move (F : Fm) (x : Operand) : Option (V × Option Nat) := match eo F x with | some v => some (v, none) | none => none
noncomputable def q_nil (F : Fm) (x : Operand) : Option (V × Option Nat) := match eo F x with | some (.ptr b o) => some (.ptr b o, none) | some (.fn f g c) => some (.fn f g c, none) | some (.ifc t v) => some (.ifc t v, none) | _ => none
noncomputable def q_pick (F : Fm) (c x y : Operand) : Option (V × Option Nat) := match eo F c, eo F x, eo F y with
  | some (.bool (.bl b)), some u, some v => some (bsel b u v, none)
  | _, _, _ => none
noncomputable def q_load (P : Program) (F : Fm) (H : PT Ob) (t : TypeId) (x : Operand) : Option (V × Option Nat) := match eo F x with
  | some (.ptr b off) => match H.get b, agv P t with
    | some o, some false => match nth o.cells off with | some v => some (v, some b) | none => none
    | some o, some true => match szv P t with
      | some m => match prt o.cells off m with | some cs => some (.agg cs, some b) | none => none
      | none => none
    | _, _ => none
  | _ => none
noncomputable def q_fa (P : Program) (F : Fm) (s : TypeId) (x : Operand) (f : Nat) : Option (V × Option Nat) := match eo F x, fdv P s f with
  | some (.ptr b off), some fd => match szv P fd.type with
    | some (Nat.succ _) => some (.ptr b (Nat.add off fd.offset), none)
    | _ => none
  | _, _ => none
noncomputable def q_fld (P : Program) (F : Fm) (s : TypeId) (x : Operand) (f : Nat) : Option (V × Option Nat) := match eo F x, fdv P s f with
  | some (.agg cs), some fd => match agv P fd.type with
    | some false => match nth cs fd.offset with | some v => some (v, none) | none => none
    | some true => match szv P fd.type with
      | some m => match prt cs fd.offset m with | some ds => some (.agg ds, none) | none => none
      | none => none
    | none => none
  | _, _ => none
noncomputable def q_ia (P : Program) (F : Fm) (t : TypeId) (x j : Operand) : Option (V × Option Nat) := match eo F x, eo F j with
  | some (.sl b off len _), some (.int _ (.lit (.ofNat k))) => match elv P t, Nat.blt k len with
    | some e, true => match szv P e with | some m => some (.ptr b (Nat.add off (Nat.mul k m)), none) | none => none
    | _, _ => none
  | some (.ptr b off), some (.int _ (.lit (.ofNat k))) => match P.underlying t with
    | some (.array len e) => match Nat.blt k len, szv P e with
      | true, some m => some (.ptr b (Nat.add off (Nat.mul k m)), none)
      | _, _ => none
    | _ => none
  | _, _ => none
noncomputable def q_ext (F : Fm) (x : Operand) (j : Nat) : Option (V × Option Nat) := match eo F x with
  | some (.tup vs) => match nth vs j with | some v => some (v, none) | none => none
  | _ => none
noncomputable def q_build (P : Program) (F : Fm) (t : TypeId) (ps : Array (Nat × Operand)) : Option (V × Option Nat) := match zv P t, P.underlying t, eps F ps.toList with
  | some z, some (.struct fs), some vs => match plc P fs.toList with
    | some q => match fillG (nth q) z vs with | some cs => some (.agg cs, none) | none => none
    | none => none
  | some z, some (.array _ e), some vs => match szv P e with
    | some m => match fillG (fun i => some (Nat.mul i m, m)) z vs with | some cs => some (.agg cs, none) | none => none
    | none => none
  | _, _, _ => none
noncomputable def q_index (P : Program) (F : Fm) (t : TypeId) (x j : Operand) : Option (V × Option Nat) := match eo F x, eo F j with
  | some (.agg cs), some (.int _ (.lit (.ofNat k))) => match P.underlying t with
    | some (.array len e) => match Nat.blt k len, szv P e, agv P e with
      | true, some 1, some false => match nth cs k with | some v => some (v, none) | none => none
      | _, _, _ => none
    | _ => none
  | _, _ => none
noncomputable def q_mf (F : Fm) (f : FuncId) (fs cs : Array Operand) : Option (V × Option Nat) := match eos F fs.toList, eos F cs.toList with
  | some us, some vs => some (.fn f us vs, none)
  | _, _ => none
noncomputable def q_mi (P : Program) (F : Fm) (t : TypeId) (x : Operand) : Option (V × Option Nat) := match eo F x, isIf P t with | some v, some false => some (.ifc t v, none) | _, _ => none
noncomputable def q_bin (P : Program) (F : Fm) (op : BinOp) (t : TypeId) (x y : Operand) : Option (V × Option Nat) := match eo F x, eo F y with
  | some u, some v => match bin P op t (isC x || isC y) u v with | some r => some (r, none) | none => none
  | _, _ => none
noncomputable def q_not (F : Fm) (x : Operand) : Option (V × Option Nat) := match eo F x with | some (.bool b) => some (.bool (X.not b), none) | _ => none
noncomputable def q_neg (P : Program) (F : Fm) (t : TypeId) (x : Operand) : Option (V × Option Nat) := match eo F x, ikv P t with | some (.int k m), some k' => (match Nat.beq (kn k) (kn k') with | true => some (.int k (X.wr k (X.neg m)), none) | false => none) | _, _ => none
noncomputable def q_conv (P : Program) (F : Fm) (t u : TypeId) (x : Operand) : Option (V × Option Nat) := match eo F x, ikv P u, P.underlying t with
  | some (.int _ m), some k, some _ => some (.int k (X.wr k m), none)
  | _, _, _ => none
noncomputable def q_slice (P : Program) (F : Fm) (t : TypeId) (x : Operand) (lo hi mx : Option Operand) : Option (V × Option Nat) := match eo F x, optN F lo, optN F hi, optN F mx with
  | some (.sl b off len cap), some lo, some hi, some mx => match elv P t with
    | some e => match szv P e with
      | some sz => slv b off len cap sz (lo.getD 0) (hi.getD len) mx (hi.isSome || !mx.isSome)
      | none => none
    | none => none
  | some (.ptr b off), some lo, some hi, some mx => match P.underlying t with
    | some (.array len e) => match szv P e with
      | some sz => slv b off len (.n len) sz (lo.getD 0) (hi.getD len) mx (hi.isSome || !mx.isSome)
      | none => none
    | _ => none
  | some .nsl, some lo, some hi, some mx => match elv P t, Nat.beq (lo.getD 0) 0 && Nat.beq (hi.getD 0) 0 && Nat.beq (mx.getD 0) 0, hi.isSome || !mx.isSome with
    | some e, true, true => match szv P e with | some _ => some (.nsl, none) | none => none
    | _, _, _ => none
  | _, _, _, _ => none
noncomputable def q_ta (P : Program) (F : Fm) (x : Operand) (u : TypeId) (ok : Bool) : Option (V × Option Nat) := match eo F x with
  | some v => match tas P u v with
    | some true => (match asV P u v with | some r => some (if' ok (.tup [r, .bool (.bl true)]) r, none) | none => none)
    | some false => (match ok, zvv P u with | true, some z => some (.tup [z, .bool (.bl false)], none) | _, _ => none)
    | none => none
  | none => none
noncomputable def q_call (P : Program) (F : Fm) (c : Call) : Option (V × Option Nat) := match c.callee, eos F c.args.toList with
  | .builtin .len, some [.sl _ _ n _] => match lent P c.argTypes with | true => some (.int .i64 (.lit (.ofNat n)), none) | false => none
  | .builtin .len, some [.esl] => match lent P c.argTypes with | true => some (.int .i64 (.lit (.ofNat 0)), none) | false => none
  | .builtin .len, some [.nsl] => match lent P c.argTypes with | true => some (.int .i64 (.lit (.ofNat 0)), none) | false => none
  | .builtin .cap, some [.sl _ _ _ (.n n)] => match lent P c.argTypes with | true => some (.int .i64 (.lit (.ofNat n)), none) | false => none
  | .builtin .cap, some [.nsl] => match lent P c.argTypes with | true => some (.int .i64 (.lit (.ofNat 0)), none) | false => none
  | .builtin .min, some vs => match isMinMax vs true with | some v => some (v, none) | none => none
  | .builtin .max, some vs => match isMinMax vs false with | some v => some (v, none) | none => none
  | _, _ => none
/-- What an operation yields that leaves memory as it is; and which block it looks at. -/
noncomputable def qop (P : Program) (F : Fm) (H : PT Ob) : Op → Option (V × Option Nat)
  | .move x => q_move F x
  | .assign x => q_move F x
  | .nilCheck x => q_nil F x
  | .pick c x y => q_pick F c x y
  | .load t x => q_load P F H t x
  | .fieldAddr s x f => q_fa P F s x f
  | .field s x f => q_fld P F s x f
  | .indexAddr t x j => q_ia P F t x j
  | .extract x j => q_ext F x j
  | .build t ps => q_build P F t ps
  | .index t x j => q_index P F t x j
  | .makeFunc (.func f) fs cs => q_mf F f fs cs
  | .makeInterface t x => q_mi P F t x
  | .binOp op t x y _ => q_bin P F op t x y
  | .unOp .not _ x => q_not F x
  | .unOp .neg t x => q_neg P F t x
  | .convert t u x => q_conv P F t u x
  | .slice t x lo hi mx => q_slice P F t x lo hi mx
  | .typeAssert x _ u ok => q_ta P F x u ok
  | .call c => q_call P F c
  | _ => none
/-- The same, the operation ahead (the kernel's own work is less so). -/
noncomputable def qopK : Op → Program → Fm → PT Ob → Option (V × Option Nat)
  | .move x => fun P F H => q_move F x
  | .assign x => fun P F H => q_move F x
  | .nilCheck x => fun P F H => q_nil F x
  | .pick c x y => fun P F H => q_pick F c x y
  | .load t x => fun P F H => q_load P F H t x
  | .fieldAddr s x f => fun P F H => q_fa P F s x f
  | .field s x f => fun P F H => q_fld P F s x f
  | .indexAddr t x j => fun P F H => q_ia P F t x j
  | .extract x j => fun P F H => q_ext F x j
  | .build t ps => fun P F H => q_build P F t ps
  | .index t x j => fun P F H => q_index P F t x j
  | .makeFunc (.func f) fs cs => fun P F H => q_mf F f fs cs
  | .makeInterface t x => fun P F H => q_mi P F t x
  | .binOp op t x y _ => fun P F H => q_bin P F op t x y
  | .unOp .not _ x => fun P F H => q_not F x
  | .unOp .neg t x => fun P F H => q_neg P F t x
  | .convert t u x => fun P F H => q_conv P F t u x
  | .slice t x lo hi mx => fun P F H => q_slice P F t x lo hi mx
  | .typeAssert x _ u ok => fun P F H => q_ta P F x u ok
  | .call c => fun P F H => q_call P F c
  | _ => fun _ _ _ => none
/-- Memory, where it is numbered from, what was written, and what is known of the inputs. -/
structure Mm where
  H : PT Ob
  c : Nat
  wl : List Nat
  pc : List (X × Bool)
structure St where
  F : Fm
  m : Mm
noncomputable def memN (b : Nat) (l : List Nat) : Bool :=
  List.rec (motive := fun _ => Bool) false (fun x _ ih => Bool.rec (motive := fun _ => Bool) ih true (Nat.beq x b)) l
noncomputable def ins (b : Nat) (l : List Nat) : List Nat := match memN b l with | true => l | false => b :: l
/-- What a call wrote that was there ahead of it, and what was written ahead of it. -/
noncomputable def uni (c c' : Nat) : List Nat → List Nat → List Nat
  | [], w => w
  | b :: r, w => match Nat.ble c b && Nat.blt b c' with | true => uni c c' r w | false => ins b (uni c c' r w)
noncomputable def Mm.new (m : Mm) (o : Ob) : Mm := match m with | ⟨H, c, wl, pc⟩ => ⟨H.put c (some o), Nat.add c 1, wl, pc⟩
noncomputable def Mm.set (m : Mm) (b : Nat) (o : Ob) : Mm := match m with | ⟨H, c, wl, pc⟩ => ⟨H.put b (some o), c, ins b wl, pc⟩
noncomputable def St.put (s : St) (d : Option Nat) (v : V) : St := match d with
  | some d => match s with | ⟨F, m⟩ => ⟨F.put d (some v), m⟩
  | none => s
/-- A row's elements: their type, and how many cells one has, and how many bytes. -/
noncomputable def elw (P : Program) (t : TypeId) : Option (TypeId × Nat × Nat × List V) := match elv P t with
  | some e => match P.info? e, zv P e with
    | some i, some z => match Nat.beq (ln z) i.size, Nat.blt 0 i.size with
      | true, true => some (e, i.size, i.bytes, z)
      | _, _ => none
    | _, _ => none
  | none => none
noncomputable def roomOk (o : Ob) (cap : Cap) (m : Nat) : Bool := match o.more, cap with
  | none, .n c => Nat.beq (ln o.cells) (Nat.mul c m) && Nat.ble c maxLen
  | some (.u i d, m'), .u i' d' => Nat.beq i i' && Nat.beq d d' && Nat.beq m m'
  | _, _ => false
noncomputable def noRoom : Cap → Nat → Bool
  | .n c, q => Nat.beq c q
  | .u _ _, _ => false
noncomputable def fits (q k bytes : Nat) : Bool := Nat.ble (Nat.mul (Nat.add q k) bytes) 140737488355328 && Nat.ble (Nat.add q k) maxLen
noncomputable def r_alloc (P : Program) (F : Fm) (MH : PT Ob) (Mc : Nat) (Mwl : List Nat) (Mpc : List (X × Bool)) (d : Option Nat) (t : TypeId) : Option (V × Mm) := match zv P t, d with
  | some z, some _ => some (.ptr Mc 0, Mm.new ⟨MH, Mc, Mwl, Mpc⟩ ⟨z, t, none⟩)
  | _, _ => none
noncomputable def r_box (P : Program) (F : Fm) (MH : PT Ob) (Mc : Nat) (Mwl : List Nat) (Mpc : List (X × Bool)) (d : Option Nat) (t : TypeId) (x : Operand) : Option (V × Mm) := match eo F x, d with
  | some v, some _ => some (.ptr Mc 0, Mm.new ⟨MH, Mc, Mwl, Mpc⟩ ⟨cells v, t, none⟩)
  | _, _ => none
noncomputable def r_store (P : Program) (F : Fm) (MH : PT Ob) (Mc : Nat) (Mwl : List Nat) (Mpc : List (X × Bool)) (d : Option Nat) (t : TypeId) (x y : Operand) : Option (V × Mm) := match szv P t, eo F x, eo F y, d with
  | some m, some (.ptr b off), some v, none => match MH.get b, Nat.beq (ln (cells v)) m, ones (cells v) with
    | some o, true, true => match upd o.cells off (cells v) with
      | some cs => some (.und, Mm.set ⟨MH, Mc, Mwl, Mpc⟩ b ⟨cs, o.e, o.more⟩)
      | none => none
    | _, _, _ => none
  | _, _, _, _ => none
noncomputable def r_bsl (P : Program) (F : Fm) (MH : PT Ob) (Mc : Nat) (Mwl : List Nat) (Mpc : List (X × Bool)) (d : Option Nat) (t : TypeId) (len : Nat) (ps : Array (Nat × Operand)) : Option (V × Mm) := match elw P t, eps F ps.toList, d with
  | some (e, m, _, z), some vs, some _ => match Nat.ble (Nat.mul len m) 16777216, fillG (fun i => some (Nat.mul i m, m)) (rep len z) vs with
    | true, some cs => some (.sl Mc 0 len (.n len), Mm.new ⟨MH, Mc, Mwl, Mpc⟩ ⟨cs, e, none⟩)
    | _, _ => none
  | _, _, _ => none
noncomputable def r_msl (P : Program) (F : Fm) (MH : PT Ob) (Mc : Nat) (Mwl : List Nat) (Mpc : List (X × Bool)) (d : Option Nat) (t : TypeId) (x y : Operand) : Option (V × Mm) := match elw P t, eo F x, eo F y, d with
  | some (e, m, bytes, z), some (.int _ (.lit (.ofNat n))), some (.int _ (.lit (.ofNat c))), some _ => match Nat.ble n c, fits c 0 bytes with
    | true, true => some (.sl Mc 0 n (.n c), Mm.new ⟨MH, Mc, Mwl, Mpc⟩ ⟨rep c z, e, none⟩)
    | _, _ => none
  | _, _, _, _ => none
noncomputable def r_call (P : Program) (F : Fm) (MH : PT Ob) (Mc : Nat) (Mwl : List Nat) (Mpc : List (X × Bool)) (d : Option Nat) (c : Call) : Option (V × Mm) := match d, c.callee, c.args.toList, c.argTypes.toList with
  | some _, .builtin .append, [x, y], [t, t'] => match Nat.beq t t', elw P t, eo F x, eo F y with
    | true, some (e, m, bytes, _), some u, some v => match v with
      | .nsl => (match u with
        | .nsl => some (.nsl, ⟨MH, Mc, Mwl, Mpc⟩)
        | .sl b off q cap => some (.sl b off q cap, ⟨MH, Mc, Mwl, Mpc⟩)
        | _ => none)
      | .sl b' off' k _ => match MH.get b', Nat.blt 0 k with
        | some o', true => match prt o'.cells off' (Nat.mul k m) with
          | none => none
          | some ns => match ones ns, u with
            | true, .nsl => (match fits 0 k bytes with
              | true => some (.sl Mc 0 k (.u Mc 0), Mm.new ⟨MH, Mc, Mwl, Mpc⟩ ⟨ns, e, some (.u Mc 0, m)⟩)
              | false => none)
            | true, .sl b off q cap => (match MH.get b, fits q k bytes with
              | some o, true => match prt o.cells off (Nat.mul q m), noRoom cap q, Nat.beq off 0, Nat.beq o.e e, roomOk o cap m with
                | some os, true, _, _, _ => some (.sl Mc 0 (Nat.add q k) (.u Mc 0), Mm.new ⟨MH, Mc, Mwl, Mpc⟩ ⟨ap os ns, e, some (.u Mc 0, m)⟩)
                | some os, false, true, true, true => some (.sl Mc 0 (Nat.add q k) (.u Mc 0), ⟨(MH.put b none).put Mc (some ⟨ap os ns, e, some (.u Mc 0, m)⟩), Nat.add Mc 1, ins b Mwl, Mpc⟩)
                | _, _, _, _, _ => none
              | _, _ => none)
            | _, _ => none
        | some _, false => (match u with
          | .nsl => some (.nsl, ⟨MH, Mc, Mwl, Mpc⟩)
          | .sl b off q cap => some (.sl b off q cap, ⟨MH, Mc, Mwl, Mpc⟩)
          | _ => none)
        | none, _ => none
      | _ => none
    | false, some (e, m, bytes, z), some .nsl, some (.int _ (.lit (.ofNat n))) => match ikv P t', Nat.blt 0 n, fits 0 n bytes with
      | some _, true, true => some (.sl Mc 0 n (.u Mc 0), Mm.new ⟨MH, Mc, Mwl, Mpc⟩ ⟨rep n z, e, some (.u Mc 0, m)⟩)
      | _, _, _ => none
    | _, _, _, _ => none
  | some _, .builtin .copy, [x, y], [t, _] => match elw P t, eo F x, eo F y with
    | some (_, 1, _, _), some (.sl b off len _), some (.sl b' off' len' _) => match MH.get b, MH.get b' with
      | some o, some o' => match prt o'.cells off' (Nat.min len' len) with
        | some ns => match ones ns, upd o.cells off ns with
          | true, some cs => some (.int .i64 (.lit (.ofNat (Nat.min len' len))), Mm.set ⟨MH, Mc, Mwl, Mpc⟩ b ⟨cs, o.e, o.more⟩)
          | _, _ => none
        | none => none
      | _, _ => none
    | _, _, _ => none
  | _, _, _, _ => none
/-- What an operation makes of memory. -/
noncomputable def eop (P : Program) (F : Fm) (M : Mm) (d : Option Nat) (op : Op) : Option (V × Mm) := match M with
  | ⟨MH, Mc, Mwl, Mpc⟩ => match op with
    | .alloc t => r_alloc P F MH Mc Mwl Mpc d t
    | .box t x => r_box P F MH Mc Mwl Mpc d t x
    | .store t x y => r_store P F MH Mc Mwl Mpc d t x y
    | .buildSlice t len ps => r_bsl P F MH Mc Mwl Mpc d t len ps
    | .makeSlice t x y => r_msl P F MH Mc Mwl Mpc d t x y
    | .call c => r_call P F MH Mc Mwl Mpc d c
    | _ => none
noncomputable def eopK : Op → Program → Fm → PT Ob → Nat → List Nat → List (X × Bool) → Option Nat → Option (V × Mm)
  | .alloc t => fun P F MH Mc Mwl Mpc d => r_alloc P F MH Mc Mwl Mpc d t
  | .box t x => fun P F MH Mc Mwl Mpc d => r_box P F MH Mc Mwl Mpc d t x
  | .store t x y => fun P F MH Mc Mwl Mpc d => r_store P F MH Mc Mwl Mpc d t x y
  | .buildSlice t len ps => fun P F MH Mc Mwl Mpc d => r_bsl P F MH Mc Mwl Mpc d t len ps
  | .makeSlice t x y => fun P F MH Mc Mwl Mpc d => r_msl P F MH Mc Mwl Mpc d t x y
  | .call c => fun P F MH Mc Mwl Mpc d => r_call P F MH Mc Mwl Mpc d c
  | _ => fun _ _ _ _ _ _ _ => none
/-- What must be so for an operation not to end all. -/
noncomputable def nzX (F : Fm) (y : Operand) : List X := match eo F y with | some (.int _ q) => [X.not (X.eq q (.lit 0))] | _ => []
noncomputable def npX (F : Fm) (y : Operand) : List X := match eo F y with | some (.int _ q) => [X.not (X.lt q (.lit 0))] | _ => []
noncomputable def bneed : BinOp → Fm → Operand → List X
  | .quo => nzX | .rem => nzX | .shl => npX | .shr => npX | _ => fun _ _ => []
noncomputable def qneed (F : Fm) : Op → List X
  | .binOp op _ _ y _ => bneed op F y
  | _ => []
noncomputable def qneedK : Op → Fm → List X
  | .binOp op _ _ y _ => fun F => bneed op F y
  | _ => fun _ => []
noncomputable def callOf : Op → Option Call
  | .call c => some c
  | _ => none
noncomputable def ldOf : Op → Option Operand
  | .load _ x => some x
  | _ => none
inductive Ex where
  | nx | ret | ex (i : Nat) | val (v : V) | pan
abbrev Lv := List (Ex × St)
noncomputable def joinO : Option Lv → Option Lv → Option Lv
  | some a, some b => some (ap a b)
  | _, _ => none
noncomputable def bindL (k : Ex → St → Option Lv) (l : Lv) : Option Lv :=
  List.rec (motive := fun _ => Option Lv) (some []) (fun p _ ih => Prod.rec (motive := fun _ => Option Lv) (fun e s => Option.rec (motive := fun _ => Option Lv) none (fun l => Option.rec (motive := fun _ => Option Lv) none (fun m => some (ap l m)) ih) (k e s)) p) l
noncomputable def pcf : List (X × Bool) → X → Option Bool
  | [], _ => none
  | (y, b) :: r, x => match X.same y x with | true => some b | false => pcf r x
/-- Both ways of a test, but for one that is known. -/
noncomputable def dec0 (pc : List (X × Bool)) (x : X) (k : Bool → List (X × Bool) → Option Lv) : Option Lv := match pcf pc x with
  | some b => k b pc
  | none => joinO (k true ((x, true) :: pc)) (k false ((x, false) :: pc))
noncomputable def dec (pc : List (X × Bool)) (x : X) (k : Bool → List (X × Bool) → Option Lv) : Option Lv := match x with
  | .bl b => k b pc
  | .un .not a => dec0 pc a (fun b pc => k (!b) pc)
  | x => dec0 pc x k
noncomputable def Mm.wpc (m : Mm) (pc : List (X × Bool)) : Mm := match m with | ⟨H, c, wl, _⟩ => ⟨H, c, wl, pc⟩
noncomputable def needs (m : Mm) (k : Mm → Option Lv) : List X → Option Lv
  | [] => k m
  | x :: r => dec m.pc x (fun b pc => match b with | true => needs (m.wpc pc) k r | false => some [(.pan, ⟨.nil, m.wpc pc⟩)])
/-- What is kept of an operation: where its value went, what it waits for, what it wrote, the numbers that it took, what it might look at. -/
structure Rec where
  dst : Option Nat
  pre : Nat
  wl : List Nat
  c : Nat
  c' : Nat
  H : PT Ob
inductive Task where
  | code (n : Nat) (c : Code) (s : St)
  | ord (n : Nat) (all rest : List Oper) (s : St)
  | reg (n : Nat) (all rest : List Oper) (rs : List Rec) (s : St)
  | call (f : Nat) (xs : List V) (m : Mm)
noncomputable def gv (all : List Oper) (F : Fm) : Option (Nat × Bool) → Option Bool
  | none => some true
  | some (j, want) => match nth all j with
    | some o => match o.dst with
      | some t => match lk F t with
        | some (.bool (.bl b)) => some (match b, want with | true, x => x | false, x => !x)
        | some .und => some false
        | _ => none
      | none => none
    | none => none
noncomputable def enumV : Nat → List V → Fm → Fm
  | _, [], F => F
  | k, v :: r, F => enumV (Nat.succ k) r (F.put k (some v))
noncomputable def rvs (P : Program) (F : Fm) (H : PT Ob) : List ResultVar → Option (List V)
  | [] => some []
  | .tmp t :: r => match lk F t with
    | some v => match rvs P F H r with | some vs => some (v :: vs) | none => none
    | none => none
  | .cell x t :: r => match szv P t, agv P t, lk F x with
    | some m, some ag, some (.ptr b off) => match ldc H b off m with
      | some cs => match pack ag cs, rvs P F H r with | some v, some vs => some (v :: vs) | _, _ => none
      | none => none
    | _, _, _ => none
noncomputable def packR : List V → V
  | [v] => v
  | vs => .tup vs
noncomputable def folv (P : Program) : List FieldStep → Nat → Nat → TypeId → Option (TypeId × Nat × Nat)
  | [], b, off, t => some (t, b, off)
  | s :: r, b, off, _ => match s.deref, fdv P s.struct s.index with
    | false, some f => match szv P f.type with
      | some (Nat.succ _) => folv P r b (Nat.add off f.offset) f.type
      | _ => none
    | _, _ => none
/-- A method's receiver: a pointer, or a pointer to a part of what it points to. -/
noncomputable def recvV (P : Program) (t : TypeId) (v : V) : List FieldStep → Option V
  | [] => match P.underlying t with | some (.pointer _) => some v | _ => none
  | s :: r => match v, s.deref, fdv P s.struct s.index with
    | .ptr b off, true, some f => match szv P f.type with
      | some (Nat.succ _) => match folv P r b (Nat.add off f.offset) f.type with
        | some (xt, b', off') => match P.underlying xt with
          | some (.pointer _) => none
          | some _ => some (.ptr b' off')
          | none => none
        | none => none
      | _ => none
    | _, _, _ => none
/-- The function that a call enters. -/
noncomputable def target (P : Program) (F : Fm) (c : Call) : Option (Nat × List V) := match eos F c.args.toList with
  | none => none
  | some vs => match c.callee with
    | .value x => match eo F x with
      | some (.fn f us cs) => some (f, ap us (ap vs cs))
      | _ => none
    | .invoke x m => match eo F x with
      | some (.ifc t v) => match P.info? t with
        | some i => match i.methods.toList.find? (fun q => q.name == m) with
          | some q => match q.func, recvV P t v q.path.toList with
            | some (f, true), some r => some (f, r :: vs)
            | _, _ => none
          | none => none
        | none => none
      | _ => none
    | .builtin _ => none
noncomputable def qk : Op → Bool
  | .move _ | .assign _ | .nilCheck _ | .pick .. | .load .. | .fieldAddr .. | .field .. | .indexAddr .. | .extract .. | .build .. | .makeFunc .. | .makeInterface .. | .binOp .. | .unOp .. | .convert .. | .slice .. | .typeAssert .. | .index .. => true
  | .call c => match c.callee with | .builtin .len => true | .builtin .cap => true | .builtin .min => true | .builtin .max => true | _ => false
  | _ => false
noncomputable def dOk (n : Nat) : Option Nat → Bool
  | none => true
  | some d => Nat.blt d n
/-- One operation that is wanted. -/
noncomputable def s_q (P : Program) (F : Fm) (op : Op) (m : Mm) : Option Lv := match m with
  | ⟨H, c, wl, pc⟩ => match qopK op P F H with
    | some (v, _) => some [(.val v, ⟨.nil, ⟨H, c, wl, pc⟩⟩)]
    | none => none
noncomputable def s_e (P : Program) (F : Fm) (m : Mm) (d : Option Nat) (op : Op) : Option Lv := match m with
  | ⟨MH, Mc, Mwl, Mpc⟩ => match eopK op P F MH Mc Mwl Mpc d with
    | some (v, m) => some [(.val v, ⟨.nil, m⟩)]
    | none => none
noncomputable def s_call (P : Program) (run : Task → Option Lv) (F : Fm) (m : Mm) (d : Option Nat) (c : Call) : Option Lv := match c.callee with
  | .builtin _ => s_e P F m d (.call c)
  | _ => match target P F c with
    | some (f, xs) => run (.call f xs m)
    | none => none
noncomputable def step1 (P : Program) (run : Task → Option Lv) (o : Oper) (s : St) : Option Lv := match s with
  | ⟨F, m⟩ => match qk o.op with
    | true => needs m (s_q P F o.op) (qneedK o.op F)
    | false => match callOf o.op with
      | some c => s_call P run F m o.dst c
      | none => s_e P F m o.dst o.op
/-- Is a place's value asked for as a test within its region? -/
noncomputable def asked (all : List Oper) (d : Nat) : Bool := all.any fun o => match o.guard with
  | some (j, _) => (match nth all j with | some o' => (match o'.dst with | some t => Nat.beq t d | none => false) | none => false)
  | none => (match o.op with | .pick (.tmp t) _ _ => Nat.beq t d | _ => false)
noncomputable def forkB (all : List Oper) (d : Option Nat) (v : V) (m : Mm) (k : V → Mm → Option Lv) : Option Lv := match v with
  | .bool (.bl b) => k (.bool (.bl b)) m
  | .bool x => match d with
    | some t => match asked all t with
      | true => dec m.pc x (fun b pc => k (.bool (.bl b)) (m.wpc pc))
      | false => k (.bool x) m
    | none => k (.bool x) m
  | v => k v m
/-! operations in whatever order: each runs on what those left that it waits for, and on what was there -/
noncomputable def preM (rs : List Rec) (j : Nat) : List Edge → Nat → Option Nat
  | [], a => some a
  | e :: r, a => match Region.binds .any e with
    | false => preM rs j r a
    | true => match nth rs (Nat.sub (Nat.pred j) e.on), Nat.blt e.on j with
      | some x, true => preM rs j r (Nat.lor a (Nat.lor (Nat.shiftLeft 1 e.on) x.pre))
      | _, _ => none
/-- Those that it does not wait for (the last one first). -/
noncomputable def outs (l : List Rec) : Nat → Nat → List Rec :=
  List.rec (motive := fun _ => Nat → Nat → List Rec) (fun _ _ => []) (fun x _ ih j a => Nat.rec (motive := fun _ => List Rec) [] (fun j _ => Bool.rec (motive := fun _ => List Rec) (x :: ih j a) (ih j a) (Nat.beq (Nat.land (Nat.shiftRight a j) 1) 1)) j) l
noncomputable def isD (rs : List Rec) (t : Nat) : Bool :=
  List.rec (motive := fun _ => Bool) false (fun x _ ih => Option.rec (motive := fun _ => Bool) ih (fun d => Bool.rec (motive := fun _ => Bool) ih true (Nat.beq d t)) x.dst) rs
noncomputable def tmpsOf : List Operand → List Nat
  | [] => []
  | .tmp t :: r => t :: tmpsOf r
  | _ :: r => tmpsOf r
noncomputable def gTmp (all : List Oper) : Option (Nat × Bool) → List Nat
  | none => []
  | some (j, _) => match nth all j with | some o => (match o.dst with | some t => [t] | none => []) | none => []
noncomputable def maskF (us : List Rec) (F : Fm) : List Nat → Fm → Fm
  | [], G => G
  | t :: r, G => match isD us t with
    | true => maskF us F r G
    | false => maskF us F r (G.put t (F.get t))
noncomputable def delR (H : PT Ob) : Nat → Nat → PT Ob
  | 0, _ => H
  | Nat.succ k, b => delR (H.put b none) k (Nat.succ b)
noncomputable def delL (H : PT Ob) : List Nat → PT Ob
  | [] => H
  | b :: r => delL (H.put b none) r
noncomputable def maskH : List Rec → PT Ob → PT Ob
  | [], H => H
  | x :: r, H => maskH r (delR (delL H x.wl) (Nat.sub x.c' x.c) x.c)
noncomputable def cpR (K H : PT Ob) : Nat → Nat → PT Ob
  | 0, _ => H
  | Nat.succ k, b => cpR K (H.put b (K.get b)) k (Nat.succ b)
noncomputable def cpL (K H : PT Ob) : List Nat → PT Ob
  | [] => H
  | b :: r => cpL K (H.put b (K.get b)) r
noncomputable def nilL {α : Type} : List α → Bool | [] => true | _ => false
noncomputable def hfree : Op → Bool
  | .move _ | .assign _ | .nilCheck _ | .pick .. | .fieldAddr .. | .field .. | .indexAddr .. | .extract .. | .build .. | .makeFunc .. | .makeInterface .. | .binOp .. | .unOp .. | .convert .. | .slice .. | .typeAssert .. | .index .. => true
  | .call c => match c.callee with | .builtin .len => true | .builtin .cap => true | .builtin .min => true | .builtin .max => true | _ => false
  | _ => false
noncomputable def isLd : Op → Bool
  | .load .. => true
  | _ => false
/-- May it look at all that is there? -/
noncomputable def full (us : List Rec) (op : Op) : Bool := match us with
  | [] => (match hfree op, isLd op with | false, false => true | _, _ => false)
  | _ => false
/-- Memory behind an operation: what it touched as it left it, all else as it was. -/
noncomputable def merge (fl : Bool) (H K : PT Ob) (wl : List Nat) (c c' : Nat) : PT Ob := match fl with
  | true => K
  | false => cpR K (cpL K H wl) (Nat.sub c' c) c
noncomputable def hasB (H : PT Ob) (b : Nat) : Bool := match H.get b with | some _ => true | none => false
noncomputable def anyB (H : PT Ob) : List Nat → Bool
  | [] => false
  | b :: r => match hasB H b with | true => true | false => anyB H r
noncomputable def clash : List Rec → List Nat → Bool
  | [], _ => false
  | x :: r, wl => match anyB x.H wl with | true => true | false => clash r wl
/-- The memory that an operation may look at. -/
noncomputable def maskM (us : List Rec) (F : Fm) (H : PT Ob) (op : Op) : PT Ob := match full us op with
  | true => H
  | false => match hfree op with
    | true => .e
    | false => match ldOf op with
      | some x => (match eo F x with
        | some (.ptr b _) => PT.put .e b ((maskH us H).get b)
        | _ => .e)
      | none => maskH us H
noncomputable def clean : List Oper → Fm → Fm
  | [], F => F
  | o :: r, F => match o.dst with | some d => clean r (F.put d none) | none => clean r F
noncomputable def k_reg (run : Task → Option Lv) (n : Nat) (all r : List Oper) (o : Oper) (rs : List Rec) (sF : Fm) (sH : PT Ob) (sc : Nat) (swl : List Nat) (pre : Nat) (us : List Rec) (K : PT Ob) (e : Ex) (s' : St) : Option Lv := match e with
  | .val v => match s' with
    | ⟨_, m'⟩ => match clash us m'.wl with
      | true => none
      | false => forkB all o.dst v m' (fun v m => match m with
        | ⟨mH, mc, mwl, mpc⟩ => run (.reg n all r (⟨o.dst, pre, mwl, sc, mc, K⟩ :: rs)
          (St.put ⟨sF, ⟨merge (full us o.op) sH mH mwl sc mc, mc, ap mwl swl, mpc⟩⟩ o.dst v)))
  | .pan => some [(.pan, s')]
  | _ => none
/-- An operation that is wanted, in whatever order: on what it may look at. -/
noncomputable def regOn (P : Program) (run : Task → Option Lv) (n : Nat) (all r : List Oper) (o : Oper) (rs : List Rec) (s : St) (pre : Nat) (us : List Rec) (F : Fm) (K : PT Ob) : Option Lv := match s with
  | ⟨sF, ⟨sH, sc, swl, spc⟩⟩ => match step1 P run o ⟨F, ⟨K, sc, [], spc⟩⟩ with
    | some l => bindL (k_reg run n all r o rs sF sH sc swl pre us K) l
    | none => none
noncomputable def regOp (P : Program) (run : Task → Option Lv) (n : Nat) (all r : List Oper) (o : Oper) (rs : List Rec) (s : St) (pre : Nat) (us : List Rec) (F : Fm) : Option Lv :=
  match gv all F o.guard with
  | some false => match s with
    | ⟨sF, ⟨sH, sc, swl, spc⟩⟩ => run (.reg n all r (⟨o.dst, pre, [], sc, sc, .e⟩ :: rs) (St.put ⟨sF, ⟨sH, sc, swl, spc⟩⟩ o.dst .und))
  | some true => match s with
    | ⟨sF, ⟨sH, sc, swl, spc⟩⟩ => regOn P run n all r o rs ⟨sF, ⟨sH, sc, swl, spc⟩⟩ pre us F (maskM us F sH o.op)
  | none => none
/-- What is known of calls; how many named places a function has (a hint). -/
structure Ora where
  f : Nat → List V → Mm → Option Lv
  nv : Nat → Nat
noncomputable def k_seq (run : Task → Option Lv) (n : Nat) (b : Code) (e : Ex) (s' : St) : Option Lv := match e with | .nx => run (.code n b s') | e => some [(e, s')]
noncomputable def c_seq (run : Task → Option Lv) (n : Nat) (a b : Code) (s : St) : Option Lv := match run (.code n a s) with
  | some l => bindL (k_seq run n b) l
  | none => none
noncomputable def c_cond (run : Task → Option Lv) (n : Nat) (x : Operand) (a b : Code) (s : St) : Option Lv := match s with
  | ⟨F, ⟨H, c, wl, pc⟩⟩ => match eo F x with
    | some (.bool e) => dec pc e (fun t pc => match t with
      | true => run (.code n a ⟨F, ⟨H, c, wl, pc⟩⟩)
      | false => run (.code n b ⟨F, ⟨H, c, wl, pc⟩⟩))
    | _ => none
noncomputable def k_block (i : Nat) (e : Ex) (s' : St) : Option Lv := match e with
  | .ex j => (match Nat.beq j i with | true => some [(.nx, s')] | false => some [(.ex j, s')])
  | e => some [(e, s')]
noncomputable def c_block (run : Task → Option Lv) (n : Nat) (i : Nat) (a : Code) (s : St) : Option Lv := match run (.code n a s) with
  | some l => bindL (k_block i) l
  | none => none
noncomputable def k_loop (run : Task → Option Lv) (n : Nat) (a : Code) (e : Ex) (s' : St) : Option Lv := match e with | .nx => run (.code n (.loop a) s') | e => some [(e, s')]
noncomputable def c_loop (run : Task → Option Lv) (n : Nat) (a : Code) (s : St) : Option Lv := match run (.code n a s) with
  | some l => bindL (k_loop run n a) l
  | none => none
noncomputable def c_reg (run : Task → Option Lv) (n : Nat) (ops : Array Oper) (any : Bool) (s : St) : Option Lv := match any with
  | false => match s with | ⟨F, m⟩ => run (.ord n ops.toList ops.toList ⟨F.fresh, m⟩)
  | true => match Region.noSelect ops with
    | true => match s with | ⟨F, m⟩ => run (.reg n ops.toList ops.toList [] ⟨clean ops.toList F.fresh, m⟩)
    | false => none
noncomputable def t_codeK : Code → (Task → Option Lv) → Nat → St → Option Lv
  | .skip => fun _ _ s => some [(.nx, s)]
  | .ret => fun _ _ s => some [(.ret, s)]
  | .exit i => fun _ _ s => some [(.ex i, s)]
  | .seq a b => fun run n s => c_seq run n a b s
  | .cond x a b => fun run n s => c_cond run n x a b s
  | .block i a => fun run n s => c_block run n i a s
  | .label _ => fun _ _ s => some [(.nx, s)]
  | .scope a => fun run n s => run (.code n a s)
  | .loop a => fun run n s => c_loop run n a s
  | .region _ ops any => fun run n s => c_reg run n ops any s
  | _ => fun _ _ _ => none
noncomputable def k_ord (run : Task → Option Lv) (n : Nat) (all r : List Oper) (F : Fm) (d : Option Nat) (e : Ex) (s' : St) : Option Lv := match e with
  | .val v => match s' with | ⟨_, m'⟩ => forkB all d v m' (fun v m => run (.ord n all r (St.put ⟨F, m⟩ d v)))
  | .pan => some [(.pan, s')]
  | _ => none
noncomputable def o_ord (P : Program) (run : Task → Option Lv) (n : Nat) (all r : List Oper) (o : Oper) (s : St) : Option Lv := match s with
  | ⟨F, m⟩ => match dOk n o.dst, gv all F o.guard with
    | true, some true => match step1 P run o ⟨F, m⟩ with
      | some l => bindL (k_ord run n all r F o.dst) l
      | none => none
    | true, some false => run (.ord n all r (St.put ⟨F, m⟩ o.dst .und))
    | _, _ => none
noncomputable def t_ord (P : Program) (run : Task → Option Lv) (n : Nat) (all rest : List Oper) (s : St) : Option Lv := match rest with
  | [] => some [(.nx, s)]
  | o :: r => o_ord P run n all r o s
noncomputable def o_reg (P : Program) (run : Task → Option Lv) (n : Nat) (all r : List Oper) (o : Oper) (rs : List Rec) (s : St) : Option Lv := match preM rs (ln rs) o.after.toList 0, dOk n o.dst, (match o.dst with | some d => isD rs d | none => false) with
  | some pre, true, false => match s with
    | ⟨F, m⟩ => regOp P run n all r o rs ⟨F, m⟩ pre (outs rs (ln rs) pre) (maskF (outs rs (ln rs) pre) F (ap (gTmp all o.guard) (tmpsOf o.op.operands.toList)) .nil)
  | _, _, _ => none
noncomputable def t_reg (P : Program) (run : Task → Option Lv) (n : Nat) (all rest : List Oper) (rs : List Rec) (s : St) : Option Lv := match rest with
  | [] => some [(.nx, s)]
  | o :: r => o_reg P run n all r o rs s
noncomputable def k_fin (P : Program) (fn : Func) (mc : Nat) (mwl : List Nat) (s : St) : Option Lv := match s with
  | ⟨F, ⟨H, c, wl, pc⟩⟩ => match rvs P F H fn.results.toList with | some vs => some [(.val (packR vs), ⟨.nil, ⟨H, c, uni mc c wl mwl, pc⟩⟩)] | none => none
noncomputable def k_call (P : Program) (fn : Func) (mc : Nat) (mwl : List Nat) (e : Ex) (s : St) : Option Lv := match e with
  | .ret => k_fin P fn mc mwl s
  | .nx => k_fin P fn mc mwl s
  | .pan => some [(.pan, s)]
  | _ => none
noncomputable def o_call (P : Program) (run : Task → Option Lv) (nv : Nat) (fn : Func) (xs : List V) (m : Mm) : Option Lv := match fn.body, Nat.ble (ln xs) fn.ntmps with
  | some body, true => match m with
    | ⟨mH, mc, mwl, mpc⟩ => match run (.code fn.ntmps body ⟨enumV 0 xs ⟨nv, .e, []⟩, ⟨mH, mc, [], mpc⟩⟩) with
      | some l => bindL (k_call P fn mc mwl) l
      | none => none
  | _, _ => none
noncomputable def t_call (P : Program) (O : Ora) (run : Task → Option Lv) (g : Nat) (xs : List V) (m : Mm) : Option Lv := match O.f g xs m with
  | some l => some l
  | none => match P.funcs[g]? with
    | some fn => o_call P run (O.nv g) fn xs m
    | none => none
noncomputable def goS : Task → Program → Ora → (Task → Option Lv) → Option Lv
  | .code n c s => fun _ _ run => t_codeK c run n s
  | .ord n all rest s => fun P _ run => t_ord P run n all rest s
  | .reg n all rest rs s => fun P _ run => t_reg P run n all rest rs s
  | .call g xs m => fun P O run => t_call P O run g xs m
noncomputable def go (P : Program) (O : Ora) : Nat → Task → Option Lv
  | 0, _ => none
  | f + 1, t => goS t P O (go P O f)
end Go.Run
