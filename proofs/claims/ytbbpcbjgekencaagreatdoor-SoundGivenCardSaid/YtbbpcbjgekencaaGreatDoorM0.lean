import Derived.Below
import Derived.Deep.MidRow
import Derived.Laws.Entries
import Derived.Laws.MakeOwn
import Derived.Laws.StructEq
import Derived.Orders
section
set_option linter.unusedVariables false
set_option linter.unusedSimpArgs false
set_option linter.unusedVariables false
namespace Go.Proofs.YtbbpcbjgekencaaGreatDoor.Ev
open Go
def pureRun {α : Type} (P : Program) : Sem α → Option α
 | .pure a => some a
 | .program k => pureRun P (k P)
 | _ => none
def kindEq : IntKind → IntKind → Bool
 | .i8, .i8 | .i16, .i16 | .i32, .i32 | .i64, .i64 | .u8, .u8 | .u16, .u16 | .u32, .u32 | .u64, .u64 => true
 | _, _ => false
def mx (a b : Int) : Int := if b > a then b else a
def mn (a b : Int) : Int := if b < a then b else a
def bt (s : ByteArray) (i : Int) : Int := match s[i.toNat]? with
 | some b => (b.toNat : Int)
 | none => 0
def intsOf (k : IntKind) : List Value → Option (List Int)
 | [] => some []
 | .int k' n :: r => match kindEq k k' with
  | true => (intsOf k r).map (n :: ·)
  | false => none
 | _ => none
inductive TT (β : Type) : Type
 | leaf
 | node (l : TT β) (k : Nat) (v : β) (r : TT β)
def TT.find {β : Type} : TT β → Nat → Option β
 | .leaf, _ => none
 | .node l k v r, e => match Nat.beq e k with
  | true => some v
  | false => match Nat.blt e k with
   | true => l.find e
   | false => r.find e
def TT.list {β : Type} : TT β → List (Nat × β)
 | .leaf => []
 | .node l k v r => l.list ++ (k, v) :: r.list
structure El where
 ty : Type
 z : ty
 n : Nat
structure Sig where
 el : TypeId → El
 ob : Nat → Type
inductive Pv
 | near
 | far
 | of (s : Nat)
 | mix (s : Nat)
inductive CV (Γ : Sig) : Type
 | c (v : Value)
 | sl (p : Pv) (e : TypeId) (l : List (Γ.el e).ty)
 | box (s o : Nat)
 | own (s : Nat)
 | rowp (s : Nat) (e : TypeId) (i : Int) (o : Nat)
 | elp (p : Pv) (e : TypeId) (x : (Γ.el e).ty) (o : Nat)
 | fn (f : FuncId) (caps : List (Nat × Nat))
inductive TV (Γ : Sig) : Type
 | cell (x : CV Γ)
 | agg (l : List (CV Γ))
inductive AV (Γ : Sig) : Type
 | t (x : TV Γ)
 | tup (l : List (TV Γ))
inductive Blk (Γ : Sig) : Type
 | box (t : TypeId) (cs : List (CV Γ))
 | row (q : Bool) (e : TypeId) (l : List (Γ.el e).ty)
 | cold (q : Bool) (e : TypeId) (l : List (Γ.el e).ty)
 | obj (κ : Nat) (x : Γ.ob κ)
abbrev Mem (Γ : Sig) := List (Nat × Blk Γ)
structure Tab where
 Γ : Sig
 und : TypeId → Option TypeDesc
 size : TypeId → Option Nat
 zero : TypeId → Option (List Value)
 cells : (e : TypeId) → (Γ.el e).ty → List (CV Γ)
 enc : (e : TypeId) → List (CV Γ) → Option (Γ.el e).ty
 rep : (κ : Nat) → Γ.ob κ → Value → World → (Nat → Prop) → Prop
 globs : List (Nat × Nat × Value)
 std : TypeId → Bool
 flat : TypeId → Bool
structure St (Γ : Sig) where
 tmps : List (Option (AV Γ))
 mem : Mem Γ
 pins : Nat
structure MC (Γ : Sig) where
 sets : List (Nat × Option (Blk Γ))
 news : List Nat
 writes : List Nat
abbrev Spec (Γ : Sig) := Nat → List (AV Γ) → Mem Γ → (ω : Type) → (AV Γ → Mem Γ → Option ω) → Option ω
structure FnS (Γ : Sig) where
 refs : List Nat
 spec : Spec Γ
section
variable {Γ : Sig}
def MC.no : MC Γ := ⟨[], [], []⟩
def Mem.get (m : Mem Γ) (s : Nat) : Option (Blk Γ) := match m with
 | [] => none
 | (q, b) :: r => if q == s then some b else Mem.get r s
def Mem.upd (m : Mem Γ) (s : Nat) (b : Option (Blk Γ)) : Mem Γ := match m with
 | [] => match b with
  | some b => [(s, b)]
  | none => []
 | (q, x) :: r => match q == s with
  | true => match b with
   | some b => (q, b) :: r
   | none => Mem.upd r s none
  | false => match b with
   | some b => if s < q then (s, b) :: (q, x) :: r else (q, x) :: Mem.upd r s (some b)
   | none => (q, x) :: Mem.upd r s none
def Mem.sets (m : Mem Γ) : List (Nat × Option (Blk Γ)) → Mem Γ
 | [] => m
 | (s, b) :: r => (Mem.sets m r).upd s b
def Mem.has (m : Mem Γ) (s : Nat) : Bool := (m.get s).isSome
def Pv.sites : Pv → List Nat
 | .of s | .mix s => [s]
 | _ => []
def CV.sites : CV Γ → List Nat
 | .sl p _ _ | .elp p _ _ _ => p.sites
 | .box s _ | .own s | .rowp s _ _ _ => [s]
 | .fn _ caps => caps.map (·.1)
 | _ => []
def sitesL : List (CV Γ) → List Nat
 | [] => []
 | x :: r => x.sites ++ sitesL r
def TV.sites : TV Γ → List Nat
 | .cell x => x.sites
 | .agg l => sitesL l
def sitesT : List (TV Γ) → List Nat
 | [] => []
 | x :: r => x.sites ++ sitesT r
def AV.sites : AV Γ → List Nat
 | .t x => x.sites
 | .tup l => sitesT l
def sitesA : List (AV Γ) → List Nat
 | [] => []
 | x :: r => x.sites ++ sitesA r
def Blk.sites : Blk Γ → List Nat
 | .box _ cs => sitesL cs
 | _ => []
def Blk.hot : Blk Γ → Bool
 | .cold .. => false
 | _ => true
def Pv.ren (f : Nat → Nat) : Pv → Pv
 | .of s => .of (f s)
 | .mix s => .mix (f s)
 | .near => .near
 | .far => .far
def CV.ren (f : Nat → Nat) : CV Γ → CV Γ
 | .box s o => .box (f s) o
 | .own s => .own (f s)
 | .rowp s e i o => .rowp (f s) e i o
 | .fn g caps => .fn g (caps.map fun p => (f p.1, p.2))
 | .c v => .c v
 | .sl p e l => .sl (p.ren f) e l
 | .elp p e x o => .elp (p.ren f) e x o
def renL (f : Nat → Nat) : List (CV Γ) → List (CV Γ)
 | [] => []
 | x :: r => x.ren f :: renL f r
def TV.ren (f : Nat → Nat) : TV Γ → TV Γ
 | .cell x => .cell (x.ren f)
 | .agg l => .agg (renL f l)
def renT (f : Nat → Nat) : List (TV Γ) → List (TV Γ)
 | [] => []
 | x :: r => x.ren f :: renT f r
def AV.ren (f : Nat → Nat) : AV Γ → AV Γ
 | .t x => .t (x.ren f)
 | .tup l => .tup (renT f l)
def renA (f : Nat → Nat) : List (AV Γ) → List (AV Γ)
 | [] => []
 | x :: r => x.ren f :: renA f r
def Blk.ren (f : Nat → Nat) : Blk Γ → Blk Γ
 | .box t cs => .box t (renL f cs)
 | .row q e l => .row q e l
 | .cold q e l => .cold q e l
 | .obj κ x => .obj κ x
def Pv.isFar : Pv → Bool
 | .near => false
 | _ => true
def CV.far : CV Γ → Bool
 | .sl p _ _ | .elp p _ _ _ => p.isFar
 | _ => false
def farL : List (CV Γ) → Bool
 | [] => false
 | x :: r => x.far || farL r
def TV.far : TV Γ → Bool
 | .cell x => x.far
 | .agg l => farL l
def farT : List (TV Γ) → Bool
 | [] => false
 | x :: r => x.far || farT r
def AV.far : AV Γ → Bool
 | .t x => x.far
 | .tup l => farT l
def CV.mixed : CV Γ → Bool
 | .sl (.mix _) _ _ | .elp (.mix _) _ _ _ => true
 | _ => false
def mixedL : List (CV Γ) → Bool
 | [] => false
 | x :: r => x.mixed || mixedL r
def TV.mixed : TV Γ → Bool
 | .cell x => x.mixed
 | .agg l => mixedL l
def mixedT : List (TV Γ) → Bool
 | [] => false
 | x :: r => x.mixed || mixedT r
def AV.mixed : AV Γ → Bool
 | .t x => x.mixed
 | .tup l => mixedT l
def CV.at (p : Pv) : CV Γ → CV Γ
 | .sl _ e l => .sl p e l
 | .elp _ e x o => .elp p e x o
 | x => x
def CV.lift (x : CV Γ) : CV Γ := x.at .far
def liftL : List (CV Γ) → List (CV Γ)
 | [] => []
 | x :: r => x.lift :: liftL r
def CV.put (s : Nat) : CV Γ → CV Γ
 | .sl .far e l => .sl (.mix s) e l
 | .elp .far e x o => .elp (.mix s) e x o
 | x => x
def putL (s : Nat) : List (CV Γ) → List (CV Γ)
 | [] => []
 | x :: r => x.put s :: putL s r
def TV.put (s : Nat) : TV Γ → TV Γ
 | .cell x => .cell (x.put s)
 | .agg l => .agg (putL s l)
def putT (s : Nat) : List (TV Γ) → List (TV Γ)
 | [] => []
 | x :: r => x.put s :: putT s r
def AV.put (s : Nat) : AV Γ → AV Γ
 | .t x => .t (x.put s)
 | .tup l => .tup (putT s l)
def CV.views : CV Γ → List Nat
 | .sl p _ _ | .elp p _ _ _ => p.sites
 | _ => []
def viewsL : List (CV Γ) → List Nat
 | [] => []
 | x :: r => x.views ++ viewsL r
def TV.views : TV Γ → List Nat
 | .cell x => x.views
 | .agg l => viewsL l
def viewsT : List (TV Γ) → List Nat
 | [] => []
 | x :: r => x.views ++ viewsT r
def AV.views : AV Γ → List Nat
 | .t x => x.views
 | .tup l => viewsT l
def Blk.views : Blk Γ → List Nat
 | .box _ cs => viewsL cs
 | _ => []
def Pv.cool (n : Nat) : Pv → Pv
 | .of s => match s.blt n with
  | true => .of s
  | false => .near
 | .mix s => match s.blt n with
  | true => .mix s
  | false => .far
 | p => p
def CV.cool (n : Nat) : CV Γ → CV Γ
 | .sl p e l => .sl (p.cool n) e l
 | .elp p e x o => .elp (p.cool n) e x o
 | x => x
def coolL (n : Nat) : List (CV Γ) → List (CV Γ)
 | [] => []
 | x :: r => x.cool n :: coolL n r
def TV.cool (n : Nat) : TV Γ → TV Γ
 | .cell x => .cell (x.cool n)
 | .agg l => .agg (coolL n l)
def coolT (n : Nat) : List (TV Γ) → List (TV Γ)
 | [] => []
 | x :: r => x.cool n :: coolT n r
def coolViews (n : Nat) : List Nat → List Nat
 | [] => []
 | s :: r => match s.blt n with
  | true => coolViews n r
  | false => s :: coolViews n r
def reach (m : Mem Γ) : Nat → List Nat → List Nat → Option (List Nat)
 | 0, _, _ => none
 | _ + 1, [], acc => some acc
 | n + 1, s :: r, acc => match acc.elem s with
  | true => reach m n r acc
  | false => match m.get s with
   | some b => reach m n (b.sites ++ r) (acc ++ [s])
   | none => reach m n r (acc ++ [s])
def idx (acc : List Nat) (s : Nat) : Nat := match acc with
 | [] => 0
 | q :: r => if q == s then 0 else idx r s + 1
def lend (m : Mem Γ) (f : Nat → Nat) : Nat → List Nat → Mem Γ
 | _, [] => []
 | i, s :: r => match m.get s with
  | some b => (i, b.ren f) :: lend m f (i + 1) r
  | none => lend m f (i + 1) r
def allHas (m : Mem Γ) : List Nat → Bool
 | [] => true
 | s :: r => match m.has s with
  | true => allHas m r
  | false => false
def allKnown (m : Mem Γ) (n : Nat) : List Nat → Bool
 | [] => true
 | s :: r => match s.blt n || m.has s with
  | true => allKnown m n r
  | false => false
def pinSites (m : Mem Γ) : List Nat → List Nat
 | [] => []
 | p :: r => match m.get p with
  | some b => b.sites ++ pinSites m r
  | none => pinSites m r
def reachFrom (m : Mem Γ) (pins : Nat) (roots : List Nat) : Option (List Nat) := match reach m 1000 (pinSites m (List.range pins) ++ roots) (List.range pins) with
 | some acc => match allKnown m pins acc with
  | true => some acc
  | false => none
 | none => none
def nm (d : Nat) : Nat := 1000 + 16 * d
def nmIn (m : Mem Γ) (d : Nat) : Nat := match m.has (nm d) with
 | true => nm d + 8
 | false => nm d
def plain : Value → Bool
 | .bool _ | .int .. | .string _ | .nilIface | .nilFunc => true
 | .slice none 0 0 => true
 | .pointer none => true
 | .func (.func _) f c => f.size == 0 && c.size == 0
 | _ => false
def ofCells : List Value → Option (List (CV Γ))
 | [] => some []
 | v :: r => match plain v with
  | true => (ofCells r).map (.c v :: ·)
  | false => none
def ofValue (v : Value) : Option (AV Γ) := match v with
 | .agg cs => (ofCells cs.toList).map fun l => .t (.agg l)
 | v => match plain v with
  | true => some (.t (.cell (.c v)))
  | false => none
def toCells : List (CV Γ) → Option (List Value)
 | [] => some []
 | .c v :: r => (toCells r).map (v :: ·)
 | _ => none
def toTV : TV Γ → Option Value
 | .cell (.c v) => some v
 | .cell _ => none
 | .agg l => (toCells l).map fun l => .agg l.toArray
def toTVs : List (TV Γ) → Option (List Value)
 | [] => some []
 | x :: r => match toTV x with
  | some v => (toTVs r).map (v :: ·)
  | none => none
def toValue : AV Γ → Option Value
 | .t x => toTV x
 | .tup l => (toTVs l).map fun l => .tuple l.toArray
def St.eval (st : St Γ) : Operand → Option (AV Γ)
 | .tmp t => (st.tmps[t]?).join
 | .const v => ofValue v
 | .func f => some (.t (.cell (.c (.func (.func f) #[] #[]))))
 | .global g => some (.t (.cell (.c (.pointer (some ⟨g, 0, none⟩)))))
def St.put (st : St Γ) (d : Option Nat) (v : Option (AV Γ)) : St Γ := match d with
 | some d => { st with tmps := st.tmps.set d v }
 | none => st
def allVals (ev : Operand → Option (AV Γ)) : List Operand → Option (List (AV Γ))
 | [] => some []
 | x :: r => match ev x with
  | some v => (allVals ev r).map (v :: ·)
  | none => none
def allValues (ev : Operand → Option (AV Γ)) : List Operand → Option (List Value)
 | [] => some []
 | x :: r => match (ev x).bind toValue with
  | some v => (allValues ev r).map (v :: ·)
  | none => none
def okCell (m : Mem Γ) : CV Γ → Bool
 | .c (.agg _) | .c (.tuple _) => false
 | .own s => match m.get s with
  | some (.box ..) => false
  | some _ => true
  | none => false
 | _ => true
def okCells (m : Mem Γ) : List (CV Γ) → Bool
 | [] => true
 | x :: r => match okCell m x with
  | true => okCells m r
  | false => false
def cellsOf (m : Mem Γ) : AV Γ → Option (List (CV Γ))
 | .t (.cell x) => match okCell m x with
  | true => some [x]
  | false => none
 | .t (.agg l) => match okCells m l with
  | true => some l
  | false => none
 | .tup _ => none
def setAt (l : List (CV Γ)) (o : Nat) : List (CV Γ) → List (CV Γ)
 | [] => l
 | x :: r => setAt (l.set o x) (o + 1) r
def St.free (st : St Γ) (d : Nat) : Bool :=
 st.pins.ble d && (st.tmps.all fun x => match x with
  | some v => !v.sites.elem d
  | none => true) && (st.mem.all fun x => !(x.1 == d) && !x.2.sites.elem d)
def St.freeAll (st : St Γ) : List Nat → Bool
 | [] => true
 | d :: r => match st.free d && !r.elem d with
  | true => st.freeAll r
  | false => false
def meets : List Nat → List Nat → Bool
 | [], _ => false
 | s :: r, l => l.elem s || meets r l
def forget (ws : List Nat) : List (Option (AV Γ)) → List (Option (AV Γ))
 | [] => []
 | some v :: r => (match meets v.views ws with
  | true => none
  | false => some v) :: forget ws r
 | none :: r => none :: forget ws r
def memViews : Mem Γ → List Nat
 | [] => []
 | (_, b) :: r => b.views ++ memViews r
def St.apply (st : St Γ) (dst : Option Nat) (v : AV Γ) (mc : MC Γ) : Option (St Γ) := match mc.sets with
 | [] => some (st.put dst (some v))
 | _ => match st.freeAll mc.news && !meets (v.views ++ memViews (st.mem.sets mc.sets)) mc.writes with
  | true => some { tmps := ({ st with tmps := forget mc.writes st.tmps }.put dst (some v)).tmps, mem := st.mem.sets mc.sets, pins := st.pins }
  | false => none
def forceT {ω : Type} : List (Option (AV Γ)) → (List (Option (AV Γ)) → Option ω) → Option ω
 | [], K => K []
 | none :: r, K => forceT r fun r => K (none :: r)
 | some v :: r, K => forceT r fun r => K (some v :: r)
def forceM {ω : Type} : Mem Γ → (Mem Γ → Option ω) → Option ω
 | [], K => K []
 | (s, b) :: r, K => forceM r fun r => K ((s, b) :: r)
def St.force {ω : Type} (st : St Γ) (K : St Γ → Option ω) : Option ω := forceT st.tmps fun ts => forceM st.mem fun m => K { tmps := ts, mem := m, pins := st.pins }
def St.forceIf {ω : Type} (mc : MC Γ) (st : St Γ) (K : St Γ → Option ω) : Option ω := match mc.sets with
 | [] => K st
 | _ => st.force K
end
section
variable (T : Tab) (P : Program)
def atP (p : Pv) : List (CV T.Γ) → List (CV T.Γ)
 | [] => []
 | x :: r => x.at p :: atP p r
def cellsQ (p : Pv) (e : TypeId) (x : (T.Γ.el e).ty) : List (CV T.Γ) := match p with
 | .near => T.cells e x
 | p => atP T p (T.cells e x)
def pvOf (q : Bool) : Pv := match q with
 | true => .far
 | false => .near
def farB (b : Blk T.Γ) : Bool := match b with
 | .box _ cs => farL cs
 | .row q e _ => q && !T.flat e
 | .cold q _ _ => q
 | .obj .. => false
def farM : Mem T.Γ → Bool
 | [] => false
 | (_, b) :: r => farB T b || farM r
def rq (q : Bool) (e : TypeId) : Bool := match T.flat e with
 | true => false
 | false => q
def liftB (b : Blk T.Γ) : Blk T.Γ := match b with
 | .box t cs => .box t (liftL cs)
 | .row _ e l => .row (rq T true e) e l
 | .cold _ e l => .cold true e l
 | .obj κ x => .obj κ x
def liftM : Mem T.Γ → Mem T.Γ
 | [] => []
 | (s, b) :: r => (s, liftB T b) :: liftM r
def isAgg (t : TypeId) : Option Bool := match T.und t with
 | some (.struct _) | some (.array ..) => some true
 | some _ => some false
 | none => none
def ofPart (t : TypeId) (l : List (CV T.Γ)) : Option (AV T.Γ) :=
 match isAgg T t, T.size t with
 | some true, some n => match (l.take n).length == n with
  | true => some (.t (.agg (l.take n)))
  | false => none
 | some false, some _ => match l with
  | x :: _ => some (.t (.cell x))
  | [] => none
 | _, _ => none
def content (m : Mem T.Γ) (e : TypeId) (x : CV T.Γ) : Option (Bool × List (T.Γ.el e).ty) := match x with
 | .c (.slice none 0 0) => some (false, [])
 | .sl p e' l => if h : e' = e then (match p with
  | .near => some (false, h ▸ l)
  | .far => some (true, h ▸ l)
  | _ => match T.flat e with
   | true => some (false, h ▸ l)
   | false => none) else none
 | .own s => match m.get s with
  | some (.row q e' l) => if h : e' = e then some (q, h ▸ l) else none
  | some (.cold q e' l) => if h : e' = e then some (q, h ▸ l) else none
  | _ => none
 | _ => none
def lenOf (m : Mem T.Γ) (x : CV T.Γ) : Option Nat := match x with
 | .c (.slice none 0 0) => some 0
 | .sl _ _ l => some l.length
 | .own s => match m.get s with
  | some (.row _ _ l) => some l.length
  | some (.cold _ _ l) => some l.length
  | _ => none
 | _ => none
def byVal1 (hot : Bool) (m : Mem T.Γ) (x : CV T.Γ) : CV T.Γ := match x with
 | .own s => match m.get s with
  | some (.row _ e l) => match hot with
   | true => .sl .far e l
   | false => x
  | some (.cold _ e l) => .sl .far e l
  | _ => x
 | x => x.lift
def byValL (hot : Bool) (m : Mem T.Γ) : List (CV T.Γ) → List (CV T.Γ)
 | [] => []
 | x :: r => byVal1 T hot m x :: byValL hot m r
def byValT (hot : Bool) (m : Mem T.Γ) : TV T.Γ → TV T.Γ
 | .cell x => .cell (byVal1 T hot m x)
 | .agg l => .agg (byValL T hot m l)
def byValTs (hot : Bool) (m : Mem T.Γ) : List (TV T.Γ) → List (TV T.Γ)
 | [] => []
 | x :: r => byValT T hot m x :: byValTs hot m r
def byVal (hot : Bool) (m : Mem T.Γ) : AV T.Γ → AV T.Γ
 | .t x => .t (byValT T hot m x)
 | .tup l => .tup (byValTs T hot m l)
def byVals (refs : List Nat) (m : Mem T.Γ) : Nat → List (AV T.Γ) → List (AV T.Γ)
 | _, [] => []
 | i, x :: r => byVal T (!refs.elem i) m x :: byVals refs m (i + 1) r
def hotRows (m : Mem T.Γ) : List Nat → List Nat
 | [] => []
 | s :: r => match m.get s with
  | some (.row ..) => s :: hotRows m r
  | _ => hotRows m r
def chill (m : Mem T.Γ) : List (CV T.Γ) → List (CV T.Γ) × List (Nat × Option (Blk T.Γ))
 | [] => ([], [])
 | x :: r => match chill m r with
  | (r', f) => match x with
   | .own s => match m.get s with
    | some (.row q e l) => (.sl (pvOf q) e l :: r', (s, some (.cold q e l)) :: f)
    | some (.cold q e l) => (.sl (pvOf q) e l :: r', f)
    | _ => (x :: r', f)
   | .sl (.of s) e l => match m.get s with
    | some (.row q e' l') => (.sl .near e l :: r', (s, some (.cold q e' l')) :: f)
    | some (.cold ..) => (.sl .near e l :: r', f)
    | _ => (x :: r', f)
   | .sl (.mix s) e l => match m.get s with
    | some (.row q e' l') => (.sl .far e l :: r', (s, some (.cold q e' l')) :: f)
    | some (.cold ..) => (.sl .far e l :: r', f)
    | _ => (x :: r', f)
   | x => (x :: r', f)
end
end Go.Proofs.YtbbpcbjgekencaaGreatDoor.Ev
end
section
set_option linter.unusedVariables false
set_option linter.unusedSimpArgs false
set_option linter.unusedVariables false
namespace Go.Proofs.YtbbpcbjgekencaaGreatDoor.Ev
open Go
def pan {ω : Type} : Option ω := none
def br {ω : Type} (c : Prop) [Decidable c] (a b : Option ω) : Option ω := if c then a else b
section
variable (T : Tab) (P : Program)
def loadA (t : TypeId) (m : Mem T.Γ) (x : CV T.Γ) {ω : Type} (K : AV T.Γ → Option ω) : Option ω := match x with
 | .box s o => match m.get s with
  | some (.box _ cs) => match ofPart T t (cs.drop o) with
   | some v => K v
   | none => none
  | _ => none
 | .elp q e y o => match ofPart T t ((cellsQ T q e y).drop o) with
   | some v => K v
   | none => none
 | .rowp s e i o => match m.get s with
  | some (.row q e' l) => if h : e' = e then (br (i.toNat < l.length) ((match ofPart T t ((cellsQ T (pvOf q) e ((h ▸ l : List (T.Γ.el e).ty).getD i.toNat (T.Γ.el e).z)).drop o) with
   | some v => K v
   | none => none)) (pan)) else none
  | _ => none
 | _ => none
def cleanOf (m : Mem T.Γ) (ws : List Nat) (cs : List (CV T.Γ)) : Bool := (viewsL (chill T m cs).1).isEmpty && !meets ((chill T m cs).2.map (·.1)) ws
def storeA (m : Mem T.Γ) (x : CV T.Γ) (cs : List (CV T.Γ)) {ω : Type} (K : List (Nat × Option (Blk T.Γ)) → List Nat → Option ω) : Option ω := match x with
 | .box s o => match m.get s with
  | some (.box t l) => match Nat.ble (o + cs.length) l.length with
   | true => K [(s, some (.box t (setAt l o cs)))] [s]
   | false => none
  | _ => none
 | .rowp s e i o => match m.get s with
  | some (.row q e' l) => if h : e' = e then (br (i.toNat < l.length) ((match cleanOf T m [s] cs && Nat.ble (o + cs.length) (T.Γ.el e).n, T.enc e (setAt (T.cells e ((h ▸ l : List (T.Γ.el e).ty).getD i.toNat (T.Γ.el e).z)) o (chill T m cs).1) with
   | true, some y => K ((s, some (.row (rq T (q || farL (chill T m cs).1) e) e ((h ▸ l : List (T.Γ.el e).ty).set i.toNat y))) :: (chill T m cs).2) [s]
   | _, _ => none)) (pan)) else none
  | _ => none
 | _ => none
def indexA (m : Mem T.Γ) (elem : TypeId) (x : CV T.Γ) (i : Int) {ω : Type} (K : CV T.Γ → Option ω) : Option ω := match x with
 | .sl q e l => match e == elem && T.std e with
  | true => br (0 ≤ i) ((br (i < (l.length : Int)) (K (.elp q e (l.getD i.toNat (T.Γ.el e).z) 0)) (pan))) (pan)
  | false => none
 | .own s => match m.get s with
  | some (.row _ e l) => match e == elem && T.std e with
   | true => br (0 ≤ i) ((br (i < (l.length : Int)) (K (.rowp s e i 0)) (pan))) (pan)
   | false => none
  | some (.cold q e l) => match e == elem && T.std e with
   | true => br (0 ≤ i) ((br (i < (l.length : Int)) (K (.elp (pvOf q) e (l.getD i.toNat (T.Γ.el e).z) 0)) (pan))) (pan)
   | false => none
  | _ => none
 | _ => none
def fieldA (f : Field) (x : CV T.Γ) : Option (CV T.Γ) := match x with
 | .box s o => some (.box s (o + f.offset))
 | .elp q e y o => some (.elp q e y (o + f.offset))
 | .rowp s e i o => some (.rowp s e i (o + f.offset))
 | _ => none
def bound (dflt : Int) : Option (Option (AV T.Γ)) → Option Int
 | none => some dflt
 | some (some (.t (.cell (.c (.int _ n))))) => some n
 | _ => none
def viewOf (q : Bool) (s : Nat) : Pv := match q with
 | true => .mix s
 | false => .of s
def sliceL {e : TypeId} (q : Pv) (l : List (T.Γ.el e).ty) (lo hi : Option (Option (AV T.Γ))) {ω : Type} (K : CV T.Γ → Option ω) : Option ω :=
 match bound T 0 lo, bound T (l.length : Int) hi with
 | some a, some b => br (0 ≤ a) ((br (a ≤ b) ((br (b ≤ (l.length : Int)) (K (.sl q e ((l.take b.toNat).drop a.toNat))) (pan))) (pan))) (pan)
 | _, _ => none
def sliceA (m : Mem T.Γ) (elem : TypeId) (x : CV T.Γ) (lo hi : Option (Option (AV T.Γ))) {ω : Type} (K : CV T.Γ → Option ω) : Option ω :=
 match x with
 | .c (.slice none 0 0) => match bound T 0 lo, bound T 0 hi, T.std elem with
  | some a, some b, true => br (0 ≤ a) ((br (a ≤ b) ((br (b ≤ 0) (K (.c (.slice none 0 0))) (pan))) (pan))) (pan)
  | _, _, _ => none
 | .sl q e l => match e == elem && T.std e with
  | true => sliceL T q l lo hi K
  | false => none
 | .own s => match m.get s with
  | some (.row q e l) => match e == elem && T.std e with
   | true => sliceL T (viewOf q s) l lo hi K
   | false => none
  | some (.cold q e l) => match e == elem && T.std e with
   | true => sliceL T (pvOf q) l lo hi K
   | false => none
  | _ => none
 | _ => none
def encAll (e : TypeId) : Nat → List (CV T.Γ) → Option (List (T.Γ.el e).ty)
 | 0, [] => some []
 | n + 1, l => match T.enc e (l.take (T.Γ.el e).n) with
  | some x => (encAll e n (l.drop (T.Γ.el e).n)).map (x :: ·)
  | none => none
 | _, _ => none
def fillR (m : Mem T.Γ) (size : Nat) (cells : List (CV T.Γ)) : List (Nat × AV T.Γ) → Option (List (CV T.Γ))
 | [] => some cells
 | (i, v) :: r => match cellsOf m v with
  | some l => match l.length == size && Nat.ble (i * size + size) cells.length with
   | true => fillR m size (setAt cells (i * size) l) r
   | false => none
  | none => none
def fillS (m : Mem T.Γ) (fs : Array Field) (cells : List (CV T.Γ)) : List (Nat × AV T.Γ) → Option (List (CV T.Γ))
 | [] => some cells
 | (i, v) :: r => match fs[i]?, cellsOf m v with
  | some f, some l => match decide (T.size f.type = some l.length) && Nat.ble (f.offset + l.length) cells.length with
   | true => fillS m fs (setAt cells f.offset l) r
   | false => none
  | _, _ => none
def sizesOk : List Field → Bool
 | [] => true
 | f :: r => match T.size f.type with
  | some _ => sizesOk r
  | none => false
def partsOf (ev : Operand → Option (AV T.Γ)) : List (Nat × Operand) → Option (List (Nat × AV T.Γ))
 | [] => some []
 | (i, x) :: r => match ev x with
  | some v => (partsOf ev r).map ((i, v) :: ·)
  | none => none
def zeroCells (t : TypeId) : Option (List (CV T.Γ)) := match T.zero t with
 | some z => ofCells z
 | none => none
def capsOf : List (AV T.Γ) → Option (List (Nat × Nat))
 | [] => some []
 | .t (.cell (.box s o)) :: r => (capsOf r).map ((s, o) :: ·)
 | _ => none
def back (acc : List Nat) (base : Nat) (i : Nat) : Nat := match i.blt acc.length with
 | true => acc.getD i 0
 | false => base + (i - acc.length)
def backSets (acc : List Nat) (base : Nat) (m : Mem T.Γ) : Nat → List Nat → List (Nat × Option (Blk T.Γ))
 | _, [] => []
 | i, s :: r => (s, (m.get i).map (Blk.ren (back acc base))) :: backSets acc base m (i + 1) r
def backNews (acc : List Nat) (base : Nat) : Mem T.Γ → List (Nat × Option (Blk T.Γ))
 | [] => []
 | (i, b) :: r => match i.blt acc.length with
  | true => backNews acc base r
  | false => (base + (i - acc.length), some (b.ren (back acc base))) :: backNews acc base r
def sitesM {Γ : Sig} : Mem Γ → List Nat
 | [] => []
 | (_, b) :: r => b.sites ++ sitesM r
def hotsOf (refs : List Nat) (mem : Mem T.Γ) : Nat → List (AV T.Γ) → List Nat
 | _, [] => []
 | i, x :: r => x.views ++ ((match refs.elem i with
  | true => []
  | false => hotRows T mem x.sites) ++ hotsOf refs mem (i + 1) r)
def putHot (hots : List Nat) (v : AV T.Γ) (m : Mem T.Γ) : Option (AV T.Γ) := match hots with
 | [] => some v
 | s :: r => match v.far || farM T m with
  | false => some v
  | true => match r.all (· == s) && !(farM T m || v.mixed) with
   | true => some (v.put s)
   | false => none
def callA (f : FnS T.Γ) (k : Nat) (d : Nat) (vs : List (AV T.Γ)) (mem : Mem T.Γ) {ω : Type} (K : AV T.Γ → MC T.Γ → Option ω) : Option ω :=
 match reach mem 1000 (sitesA (byVals T f.refs mem 0 vs)) [] with
 | none => none
 | some acc => match allHas mem acc && !meets (hotsOf T f.refs mem 0 vs) acc && (memViews (lend mem (idx acc) 0 acc)).isEmpty with
  | false => none
  | true => f.spec k (renA (idx acc) (byVals T f.refs mem 0 vs)) (liftM T (lend mem (idx acc) 0 acc)) ω fun v m =>
   match allKnown m acc.length (v.sites ++ sitesM m) with
   | true => match putHot T (hotsOf T f.refs mem 0 vs) (v.ren (back acc (nm d))) m with
    | some v => K v ⟨backSets T acc (nm d) m 0 acc ++ backNews T acc (nm d) m, (backNews T acc (nm d) m).map (·.1), acc⟩
    | none => none
   | false => none
def fnOf {Γ : Sig} : AV Γ → Option (FuncId × List (Nat × Nat))
 | .t (.cell (.c (.func (.func f) a b))) => match a.size == 0 && b.size == 0 with
  | true => some (f, [])
  | false => none
 | .t (.cell (.fn f caps)) => some (f, caps)
 | _ => none
def big : Nat := 1099511627776
def eqOne (i : Nat) (f : Field) (x y : Value) : Option Bool := match f.offset == i && !(f.name == "_") with
 | true => match T.und f.type, x, y with
  | some (.int _), .int k a, .int k' b => match kindEq k k' with
   | true => some (a == b)
   | false => none
  | some .bool, .bool a, .bool b => some (a == b)
  | _, _, _ => none
 | false => none
def eqFields : Nat → List Field → List Value → List Value → Option Bool
 | i, f :: r, x :: xs, y :: ys => match eqOne T i f x y with
  | some c => match r, xs, ys with
   | [], [], [] => some c
   | r, xs, ys => (eqFields (i + 1) r xs ys).map fun b => c && b
  | none => none
 | _, _, _, _ => none
def eqStruct (t : TypeId) (xs ys : List Value) : Option Bool := match T.und t, P.stoodInHeld t with
 | some (.struct fs), false => eqFields T 0 fs.toList xs ys
 | _, _ => none
def evalD (S : FuncId → Option (FnS T.Γ)) (k : Nat) (o : Oper) (ev : Operand → Option (AV T.Γ)) (mem : Mem T.Γ) {ω : Type} (K : AV T.Γ → MC T.Γ → Option ω) : Option ω :=
 let ret (v : AV T.Γ) : Option ω := K v .no
 let sem (x : Sem Value) : Option ω := match pureRun P x with
  | some v => match ofValue v with
   | some a => ret a
   | none => none
  | none => none
 match o.op with
 | .move x | .assign x => match x, (T.und o.type), o.dst with
  | .const (.slice none 0 0), some (.slice e), some d => K (.t (.cell (.own (nmIn mem d)))) ⟨[(nmIn mem d, some (.row false e []))], [nmIn mem d], []⟩
  | _, _, _ => match ev x with
   | some v => ret v
   | none => none
 | .pick c a b => match ev c with
  | some (.t (.cell (.c (.bool t)))) => br (t = true) ((match ev a with
   | some v => ret v
   | none => none)) ((match ev b with
   | some v => ret v
   | none => none))
  | _ => none
 | .alloc e => match o.dst, zeroCells T e with
  | some d, some cs => K (.t (.cell (.box (nmIn mem d) 0))) ⟨[(nmIn mem d, some (.box e cs))], [nmIn mem d], []⟩
  | _, _ => none
 | .box e x => match o.dst, (ev x).bind (cellsOf mem) with
  | some d, some cs => K (.t (.cell (.box (nmIn mem d) 0))) ⟨[(nmIn mem d, some (.box e cs))], [nmIn mem d], []⟩
  | _, _ => none
 | .build t parts => match T.und t, zeroCells T t, partsOf T ev parts.toList with
  | some (.struct fs), some z, some ps => match sizesOk T fs.toList, fillS T mem fs z ps with
   | true, some cs => ret (.t (.agg cs))
   | _, _ => none
  | _, _, _ => none
 | .buildSlice t len parts => match T.und t, o.dst, partsOf T ev parts.toList with
  | some (.slice e), some d, some ps => match Nat.ble (len * (T.Γ.el e).n) 16777216 && T.std e, zeroCells T e with
   | true, some z => match fillR T mem (T.Γ.el e).n (List.replicate len z).flatten ps with
    | some cs => match cleanOf T mem [] cs, encAll T e len (chill T mem cs).1 with
     | true, some l => K (.t (.cell (.own (nmIn mem d)))) ⟨(nmIn mem d, some (.row (rq T (farL (chill T mem cs).1) e) e l)) :: (chill T mem cs).2, [nmIn mem d], []⟩
     | _, _ => none
    | none => none
   | _, _ => none
  | _, _, _ => none
 | .load t a => match ev a with
  | some (.t (.cell x)) => loadA T t mem x ret
  | _ => none
 | .store t a x => match ev a, (ev x).bind (cellsOf mem) with
  | some (.t (.cell p)), some cs => match decide (T.size t = some cs.length) with
   | true => storeA T mem p cs fun sets ws => K (.tup []) ⟨sets, [], ws⟩
   | false => none
  | _, _ => none
 | .nilCheck x => match ev x with
  | some (.t (.cell (.box s o))) => ret (.t (.cell (.box s o)))
  | some (.t (.cell (.elp q e y o))) => ret (.t (.cell (.elp q e y o)))
  | some (.t (.cell (.rowp s e i o))) => ret (.t (.cell (.rowp s e i o)))
  | _ => none
 | .fieldAddr t x f => match T.und t, ev x with
  | some (.struct fs), some (.t (.cell p)) => match fs[f]? with
   | some f => match T.size f.type with
    | some (n + 1) => match fieldA T f p with
     | some q => ret (.t (.cell q))
     | none => none
    | _ => none
   | none => none
  | _, _ => none
 | .field t x f => match T.und t, ev x with
  | some (.struct fs), some (.t (.agg l)) => match fs[f]? with
   | some f => match ofPart T f.type (l.drop f.offset) with
    | some v => ret v
    | none => none
   | none => none
  | _, _ => none
 | .indexAddr t x ix => match T.und t, ev x, ev ix with
  | some (.slice elem), some (.t (.cell p)), some (.t (.cell (.c (.int _ i)))) => indexA T mem elem p i fun q => ret (.t (.cell q))
  | _, _, _ => none
 | .slice t x lo hi none => match T.und t, ev x with
  | some (.slice elem), some (.t (.cell p)) => sliceA T mem elem p (lo.map ev) (hi.map ev) fun q => K (.t (.cell q)) .no
  | some .string, some (.t (.cell (.c (.string s)))) => match lo.map ev, hi.map ev with
   | some (some (.t (.cell (.c a)))), some (some (.t (.cell (.c b)))) => sem (Instr.slice t (.string s) (some a) (some b) none)
   | none, some (some (.t (.cell (.c b)))) => sem (Instr.slice t (.string s) none (some b) none)
   | some (some (.t (.cell (.c a)))), none => sem (Instr.slice t (.string s) (some a) pan pan)
   | _, _ => none
  | _, _ => none
 | .extract x i => match ev x with
  | some (.tup l) => match l[i]? with
   | some v => ret (.t v)
   | none => none
  | _ => none
 | .binOp op t x y _ => match (ev x).bind toValue, (ev y).bind toValue with
  | some a, some b => match op, a, b with
   | .quo, .int k a, .int k' b => match kindEq k k' with
    | true => br (b = 0) pan (ret (.t (.cell (.c (.int k (k.wrap (a.tdiv b)))))))
    | false => none
   | .rem, .int k a, .int k' b => match kindEq k k' with
    | true => br (b = 0) pan (ret (.t (.cell (.c (.int k (a.tmod b))))))
    | false => none
   | .shl, .int k a, .int _ b => br (b < 0) pan (ret (.t (.cell (.c (.int k (k.wrap (a * 2 ^ (min b.toNat k.bits))))))))
   | .shr, .int k a, .int _ b => br (b < 0) pan (ret (.t (.cell (.c (.int k (a.fdiv (2 ^ (min b.toNat k.bits))))))))
   | .and, .int k a, .int k' b => match kindEq k k' with
    | true => ret (.t (.cell (.c (.int k (bits .and k a b)))))
    | false => none
   | .or, .int k a, .int k' b => match kindEq k k' with
    | true => ret (.t (.cell (.c (.int k (bits .or k a b)))))
    | false => none
   | .xor, .int k a, .int k' b => match kindEq k k' with
    | true => ret (.t (.cell (.c (.int k (bits .xor k a b)))))
    | false => none
   | .andNot, .int k a, .int k' b => match kindEq k k' with
    | true => ret (.t (.cell (.c (.int k (bits .andNot k a b)))))
    | false => none
   | .eql, .agg xs, .agg ys => match eqStruct T P t xs.toList ys.toList with
    | some b => ret (.t (.cell (.c (.bool b))))
    | none => none
   | .neq, .agg xs, .agg ys => match eqStruct T P t xs.toList ys.toList with
    | some b => ret (.t (.cell (.c (.bool (!b)))))
    | none => none
   | _, _, _ => sem (do eqGuard op t x y a b; Go.binOp op t a b)
  | _, _ => none
 | .unOp op _ x => match (ev x).bind toValue with
  | some a => sem (Op.unary op a)
  | none => none
 | .convert s d x => match T.und s, T.und d, ev x with
  | some (.int _), some (.int k), some (.t (.cell (.c (.int _ n)))) => ret (.t (.cell (.c (.int k (k.wrap n)))))
  | _, _, _ => none
 | .index t x ix => match T.und t, (ev x).bind toValue, (ev ix).bind toValue with
  | some .string, some (.string s), some (.int _ i) => br (0 ≤ i) (br (i < (s.size : Int)) (ret (.t (.cell (.c (.int .u8 (bt s i)))))) pan) pan
  | some (.array len e), some (.agg cs), some (.int _ i) => match cs.toList with
   | .int k n :: r => match intsOf k (.int k n :: r), T.und e, T.size e, len == cs.size with
    | some l, some (.int _), some 1, true => br (0 ≤ i) (br (i < (len : Int)) (ret (.t (.cell (.c (.int k (l.getD i.toNat 0)))))) pan) pan
    | _, _, _, _ => none
   | _ => none
  | _, _, _ => none
 | .makeFunc (.func f) first captured => match first.toList, (allVals ev captured.toList).bind (capsOf T) with
  | [], some caps => ret (.t (.cell (.fn f caps)))
  | _, _ => none
 | .makeSlice t len cap => match T.und t, o.dst, ev len, ev cap with
  | some (.slice e), some d, some (.t (.cell (.c (.int _ n)))), some (.t (.cell (.c (.int _ c)))) => match T.std e with
   | true => br (0 ≤ n) ((br (n ≤ c) ((br (c ≤ 1099511627776) (K (.t (.cell (.own (nmIn mem d)))) ⟨[(nmIn mem d, some (.row false e (List.replicate n.toNat (T.Γ.el e).z)))], [nmIn mem d], []⟩) (pan))) (pan))) (pan)
   | false => none
  | _, _, _, _ => none
 | .call c => match c.callee with
  | .value f => match (ev f).bind fnOf, o.dst, allVals ev c.args.toList with
   | some (f, caps), some d, some vs => match S f with
    | some s => callA T s k d (vs ++ caps.map fun p => .t (.cell (.box p.1 p.2))) mem K
    | none => none
   | _, _, _ => none
  | .builtin .append => match c.argTypes.toList, o.dst, c.args.toList with
   | [t, t'], some d, [x, y] => match Nat.beq t t', T.und t, ev x, ev y with
    | true, some (.slice e), some (.t (.cell p)), some (.t (.cell r)) => match content T mem e p, content T mem e r with
     | some (q1, l1), some (q2, l2) => match T.std e, p with
      | true, .c _ => br (l1.length + l2.length ≤ big) (K (.t (.cell (.own (nmIn mem d)))) ⟨[(nmIn mem d, some (.row (rq T (q1 || q2) e) e (l1 ++ l2)))], [nmIn mem d], []⟩) (pan)
      | true, .own s => match (hotRows T mem [s]) with
       | [] => none
       | _ => br (l1.length + l2.length ≤ big) (K (.t (.cell (.own (nmIn mem d)))) ⟨[(nmIn mem d, some (.row (rq T (q1 || q2) e) e (l1 ++ l2))), (s, none)], [nmIn mem d], [s]⟩) (pan)
      | _, _ => none
     | _, _ => none
    | _, _, _, _ => none
   | _, _, _ => none
  | .builtin .copy => match (c.argTypes[0]?).bind T.und, (c.argTypes[1]?).bind T.und, c.args.toList with
   | some (.slice e), some (.slice _), [x, y] => match ev x, ev y with
    | some (.t (.cell (.own s))), some (.t (.cell r)) => match mem.get s, content T mem e r with
     | some (.row q1 e' l1), some (q2, l2) => if h : e' = e then match T.std e with
      | true => K (.t (.cell (.c (goInt (min l2.length l1.length))))) ⟨[(s, some (.row (rq T (q1 || q2) e) e (l2.take l1.length ++ (h ▸ l1 : List (T.Γ.el e).ty).drop l2.length)))], [], [s]⟩
      | false => none else none
     | _, _ => none
    | _, _ => none
   | _, _, _ => none
  | .builtin .len => match c.args.toList with
   | [x] => match ev x with
    | some (.t (.cell p)) => match lenOf T mem p with
     | some n => (match (c.argTypes[0]?).bind T.und with
      | some (.slice _) => ret (.t (.cell (.c (goInt n))))
      | _ => none)
     | none => (match toTV (.cell p) with
      | some v => sem (Builtin.len_ c.argTypes o.type #[v])
      | none => none)
    | _ => none
   | _ => none
  | .builtin .max => match allValues ev c.args.toList with
   | some [.int k a, .int _ b] => ret (.t (.cell (.c (.int k (mx a b)))))
   | some vs => sem (Builtin.max_ c.argTypes o.type vs.toArray)
   | none => none
  | .builtin .min => match allValues ev c.args.toList with
   | some [.int k a, .int _ b] => ret (.t (.cell (.c (.int k (mn a b)))))
   | some vs => sem (Builtin.min_ c.argTypes o.type vs.toArray)
   | none => none
  | _ => none
 | _ => none
def evalOp (S : FuncId → Option (FnS T.Γ)) (k : Nat) (o : Oper) (st : St T.Γ) {ω : Type} (K : St T.Γ → Option ω) : Option ω :=
 evalD T P S k o st.eval st.mem fun v mc => match st.apply o.dst v mc with
  | some st => st.forceIf mc K
  | none => none
def evalOps (S : FuncId → Option (FnS T.Γ)) (k : Nat) (all : List Oper) {ω : Type} : List Oper → St T.Γ → (St T.Γ → Option ω) → Option ω
 | [], st, K => K st
 | o :: r, st, K => match o.guard with
  | none => evalOp T P S k o st (fun st => evalOps S k all r st K)
  | some (j, want) => match (all[j]?).bind (·.dst) with
   | some d => match (st.tmps[d]?).join with
    | some (.t (.cell (.c (.bool b)))) => br (b = want) (evalOp T P S k o (st.put (some d) (some (.t (.cell (.c (.bool want)))))) (fun st => evalOps S k all r st K)) (evalOps S k all r ((st.put (some d) (some (.t (.cell (.c (.bool !want)))))).put o.dst (some (.tup []))) K)
    | some (.tup []) => evalOps S k all r (st.put o.dst (some (.tup []))) K
    | _ => none
   | none => none
structure Eff (Γ : Sig) where
 i : Nat
 o : Oper
 v : AV Γ
 mc : MC Γ
 tch : List Nat
def disj : List Nat → List Nat → Bool
 | [], _ => true
 | s :: r, l => match l.elem s with
  | true => false
  | false => disj r l
def opSites {Γ : Sig} (ev : Operand → Option (AV Γ)) : List Operand → List Nat
 | [] => []
 | x :: r => match ev x with
  | some v => v.sites ++ opSites ev r
  | none => opSites ev r
def dstNm (o : Oper) : List Nat := match o.dst with
 | some d => [nm d]
 | none => []
def setsSites {Γ : Sig} : List (Nat × Option (Blk Γ)) → List Nat
 | [] => []
 | (_, some b) :: r => b.sites ++ setsSites r
 | (_, none) :: r => setsSites r
def setsViews {Γ : Sig} : List (Nat × Option (Blk Γ)) → List Nat
 | [] => []
 | (_, some b) :: r => b.views ++ setsViews r
 | (_, none) :: r => setsViews r
def Eff.keys {Γ : Sig} (e : Eff Γ) : List Nat := e.mc.sets.map (·.1) ++ (e.mc.news ++ e.mc.writes)
def Eff.all {Γ : Sig} (e : Eff Γ) : List Nat := e.tch ++ (e.v.sites ++ setsSites e.mc.sets)
def Eff.apart {Γ : Sig} (ops : Array Oper) (x y : Eff Γ) : Bool := Oper.apart ops x.o y.o && (disj x.keys (y.all ++ y.keys) && disj y.keys x.all)
def pairOk {Γ : Sig} (ops : Array Oper) (b : Array Nat) (y : Eff Γ) : List (Eff Γ) → Bool
 | [] => true
 | x :: r => match (disj y.mc.news (x.all ++ x.keys) && !meets (setsViews x.mc.sets) y.mc.writes) && ((b.getD y.i 0).testBit x.i || Eff.apart ops x y) with
  | true => pairOk ops b y r
  | false => false
def effOk {Γ : Sig} (st0 : St Γ) (mc : MC Γ) : Bool := st0.freeAll mc.news && !meets (memViews st0.mem ++ setsViews mc.sets) mc.writes
def evalAny (S : FuncId → Option (FnS T.Γ)) (k : Nat) (ops : Array Oper) (b : Array Nat) (st0 : St T.Γ) {ω : Type} : List (Nat × Oper) → List (Eff T.Γ) → St T.Γ → (St T.Γ → Option ω) → Option ω
 | [], _, st, K => K st
 | (i, o) :: r, recs, st, K =>
  let go (st : St T.Γ) : Option ω := match reach st.mem 1000 (opSites st.eval o.op.operands.toList) [] with
   | some tch => evalD T P S k o st.eval st.mem fun v mc => match st.apply o.dst v mc with
    | some st => match effOk st0 mc && pairOk ops b ⟨i, o, v, mc, dstNm o ++ tch⟩ recs with
     | true => st.forceIf mc fun st => evalAny S k ops b st0 r (⟨i, o, v, mc, dstNm o ++ tch⟩ :: recs) st K
     | false => none
    | none => none
   | none => none
  let no (st : St T.Γ) : Option ω := match pairOk ops b ⟨i, o, .tup [], .no, []⟩ recs with
   | true => evalAny S k ops b st0 r (⟨i, o, .tup [], .no, []⟩ :: recs) (st.put o.dst (some (.tup []))) K
   | false => none
  match o.guard with
  | none => go st
  | some (j, want) => match (ops[j]?).bind (·.dst) with
   | some d => match (st.tmps[d]?).join with
    | some (.t (.cell (.c (.bool b)))) => br (b = want) (go (st.put (some d) (some (.t (.cell (.c (.bool want))))))) (no (st.put (some d) (some (.t (.cell (.c (.bool !want)))))))
    | some (.tup []) => no st
    | _ => none
   | none => none
def enumL {β : Type} : Nat → List β → List (Nat × β)
 | _, [] => []
 | i, x :: r => (i, x) :: enumL (i + 1) r
def edgesOk (ops : Array Oper) : Bool := (enumL 0 ops.toList).all fun p => p.2.after.toList.all fun e => !Region.binds .any e || decide (e.on < p.1)
def evalReg (S : FuncId → Option (FnS T.Γ)) (k : Nat) (ops : Array Oper) (draw : Bool) (st : St T.Γ) {ω : Type} (K : St T.Γ → Option ω) : Option ω :=
 match draw with
 | false => evalOps T P S k ops.toList ops.toList st K
 | true => match edgesOk ops with
  | true => evalAny T P S k ops (Region.before ops) st (enumL 0 ops.toList) [] st K
  | false => none
def keepL {Γ : Sig} (m : Mem Γ) (pins : Nat) (ts : List Nat) : Nat → List (Option (AV Γ)) → List (Option (AV Γ))
 | _, [] => []
 | i, some v :: r => (match ts.elem i && allKnown m pins v.sites with
  | true => some v
  | false => none) :: keepL m pins ts (i + 1) r
 | i, none :: r => none :: keepL m pins ts (i + 1) r
def rootsOf {Γ : Sig} : List (Option (AV Γ)) → List Nat
 | [] => []
 | some v :: r => v.sites ++ rootsOf r
 | none :: r => rootsOf r
def renO {Γ : Sig} (f : Nat → Nat) : List (Option (AV Γ)) → List (Option (AV Γ))
 | [] => []
 | some v :: r => some (v.ren f) :: renO f r
 | none :: r => none :: renO f r
def canon {Γ : Sig} (ts : List Nat) (st : St Γ) : Option (St Γ) :=
 match reachFrom st.mem st.pins (rootsOf (keepL st.mem st.pins ts 0 st.tmps)) with
 | some acc => some { tmps := renO (idx acc) (keepL st.mem st.pins ts 0 st.tmps), mem := lend st.mem (idx acc) 0 acc, pins := st.pins }
 | none => none
inductive Fr
 | seq (n m : Nat) (b : Code)
 | block (id : Nat)
 | loop (n : Nat) (b : Code)
abbrev Cut := Nat × Code × List Fr
def csize : Code → Nat
 | .seq a b => csize a + csize b + 1
 | .cond _ a b => csize a + csize b
 | .block _ b => csize b
 | .loop b => csize b + 1
 | _ => 0
def unwind (id : Nat) : List Fr → Option (List Fr)
 | [] => none
 | .block id' :: fs => match id' == id with
  | true => some fs
  | false => unwind id fs
 | .seq .. :: fs => unwind id fs
 | .loop .. :: fs => unwind id fs
def lvOf : List (Nat × List Nat) → Nat → Option (List Nat)
 | [], _ => none
 | (q, ts) :: r, n => match q == n with
  | true => some ts
  | false => lvOf r n
section
variable {ω : Type} (S : FuncId → Option (FnS T.Γ)) (lv : List (Nat × List Nat)) (fin : St T.Γ → Option ω)
def cutAt (L : Nat → Cut → St T.Γ → Option ω) (n : Nat) (ts : List Nat) (x : Cut) (st : St T.Γ) : Option ω := match canon ts st with
 | some st => L n x st
 | none => none
def popF (L : Nat → Cut → St T.Γ → Option ω) (ex : Nat → Code → List Fr → St T.Γ → Option ω) : List Fr → St T.Γ → Option ω
 | [], st => fin st
 | .seq n m b :: fs, st => match lvOf lv n with
  | some ts => cutAt T L n ts (m, b, fs) st
  | none => ex m b fs st
 | .block _ :: fs, st => popF L ex fs st
 | .loop n b :: fs, st => match lvOf lv n with
  | some ts => cutAt T L n ts (n + 1, b, .loop n b :: fs) st
  | none => none
def exec (k : Nat) (L : Nat → Cut → St T.Γ → Option ω) : Nat → Nat → Code → List Fr → St T.Γ → Option ω
 | 0, _, _, _, _ => none
 | f + 1, n, c, fs, st => match c with
  | .skip => popF T lv fin L (exec k L f) fs st
  | .label _ => popF T lv fin L (exec k L f) fs st
  | .region _ ops draw => evalReg T P S k ops draw st fun st => st.force fun st => popF T lv fin L (exec k L f) fs st
  | .seq a b => exec k L f (n + 1) a (.seq n (n + 1 + csize a) b :: fs) st
  | .cond c a b => match st.eval c with
   | some (.t (.cell (.c (.bool t)))) => br (t = true) (exec k L f n a fs st) (exec k L f (n + csize a) b fs st)
   | _ => none
  | .block id b => exec k L f n b (.block id :: fs) st
  | .loop b => match lvOf lv n with
   | some ts => cutAt T L n ts (n + 1, b, .loop n b :: fs) st
   | none => none
  | .exit id => match unwind id fs with
   | some fs => popF T lv fin L (exec k L f) fs st
   | none => none
  | .ret => fin st
  | _ => none
def cutsL : Nat → Nat → Cut → St T.Γ → Option ω
 | 0, _, _, _ => none
 | k + 1, _, (m, c, fs), st => exec T P S lv fin k (cutsL k) 1000 m c fs st
end
def resultOf (st : St T.Γ) : ResultVar → Option (TV T.Γ)
 | .tmp t => match (st.tmps[t]?).join with
  | some (.t x) => some x
  | _ => none
 | .cell a t => match (st.tmps[a]?).join with
  | some (.t (.cell (.box s o))) => match st.mem.get s with
   | some (.box _ cs) => match ofPart T t (cs.drop o) with
    | some (.t x) => some x
    | _ => none
   | _ => none
  | _ => none
def resultsOf (st : St T.Γ) : List ResultVar → Option (List (TV T.Γ))
 | [] => some []
 | x :: r => match resultOf T st x with
  | some v => (resultsOf st r).map (v :: ·)
  | none => none
def tupOf {Γ : Sig} : List (TV Γ) → AV Γ
 | [v] => .t v
 | l => .tup l
def finish (rs : List ResultVar) {ω : Type} (K : AV T.Γ → Mem T.Γ → Option ω) (st : St T.Γ) : Option ω := match resultsOf T st rs with
 | some l => match reachFrom st.mem st.pins (sitesT (coolT st.pins l)) with
  | some acc => match meets (coolViews st.pins (viewsT l)) acc with
   | false => K ((tupOf (coolT st.pins l)).ren (idx acc)) (lend st.mem (idx acc) 0 acc)
   | true => none
  | none => none
 | none => none
def start (fn : Func) (args : List (AV T.Γ)) (mem : Mem T.Γ) : St T.Γ := { tmps := args.map some ++ List.replicate (fn.ntmps - args.length) none, mem := mem, pins := mem.length }
def runL {ω : Type} (S : FuncId → Option (FnS T.Γ)) (lv : List (Nat × List Nat)) (fn : Func) (k : Nat) (L : Nat → Cut → St T.Γ → Option ω) (args : List (AV T.Γ)) (mem : Mem T.Γ) (K : AV T.Γ → Mem T.Γ → Option ω) : Option ω := match fn.body with
 | some c => exec T P S lv (finish T fn.results.toList K) k L 1000 0 c [] (start T fn args mem)
 | none => none
def run {ω : Type} (S : FuncId → Option (FnS T.Γ)) (lv : List (Nat × List Nat)) (fn : Func) (k : Nat) (args : List (AV T.Γ)) (mem : Mem T.Γ) (K : AV T.Γ → Mem T.Γ → Option ω) : Option ω :=
 runL T P S lv fn k (cutsL T P S lv (finish T fn.results.toList K) k) args mem K
end
end Go.Proofs.YtbbpcbjgekencaaGreatDoor.Ev
end
section
set_option linter.unusedVariables false
set_option linter.unusedSimpArgs false
set_option linter.unusedVariables false
namespace Go.Proofs.YtbbpcbjgekencaaGreatDoor.Ev
open Go
inductive Atom (Γ : Sig) : Type
 | int (n : Int)
 | bool (b : Bool)
 | str (s : ByteArray)
 | sl (e : TypeId) (l : List (Γ.el e).ty)
 | el (e : TypeId) (x : (Γ.el e).ty)
 | ob (κ : Nat) (x : Γ.ob κ)
section
variable {Γ : Sig}
def aI (az : List (Atom Γ)) (i : Nat) : Int := match az[i]? with
 | some (.int n) => n
 | _ => 0
def aB (az : List (Atom Γ)) (i : Nat) : Bool := match az[i]? with
 | some (.bool b) => b
 | _ => false
def aS (az : List (Atom Γ)) (i : Nat) : ByteArray := match az[i]? with
 | some (.str s) => s
 | _ => ⟨#[]⟩
def aL (e : TypeId) (az : List (Atom Γ)) (i : Nat) : List (Γ.el e).ty := match az[i]? with
 | some (.sl e' l) => if h : e' = e then h ▸ l else []
 | _ => []
def aE (e : TypeId) (az : List (Atom Γ)) (i : Nat) : (Γ.el e).ty := match az[i]? with
 | some (.el e' x) => if h : e' = e then h ▸ x else (Γ.el e).z
 | _ => (Γ.el e).z
def aO (κ : Nat) (d : Γ.ob κ) (az : List (Atom Γ)) (i : Nat) : Γ.ob κ := match az[i]? with
 | some (.ob κ' x) => if h : κ' = κ then h ▸ x else d
 | _ => d
def capsEq : List (Nat × Nat) → List (Nat × Nat) → Bool
 | [], [] => true
 | (s, o) :: r, (s', o') :: r' => s == s' && (o == o' && capsEq r r')
 | _, _ => false
def cntV : Value → Nat
 | .int .. | .bool _ | .string _ => 1
 | _ => 0
def cntC : CV Γ → Nat
 | .c v => cntV v
 | .sl .. | .rowp .. | .elp .. => 1
 | _ => 0
def cntL : List (CV Γ) → Nat
 | [] => 0
 | x :: r => cntC x + cntL r
def cntT : TV Γ → Nat
 | .cell x => cntC x
 | .agg l => cntL l
def cntTs : List (TV Γ) → Nat
 | [] => 0
 | x :: r => cntT x + cntTs r
def cntA : AV Γ → Nat
 | .t x => cntT x
 | .tup l => cntTs l
def cntB : Blk Γ → Nat
 | .box _ cs => cntL cs
 | _ => 1
def cntM : Mem Γ → Nat
 | [] => 0
 | (_, b) :: r => cntB b + cntM r
def cntO : List (Option (AV Γ)) → Nat
 | [] => 0
 | some v :: r => cntA v + cntO r
 | none :: r => cntO r
def cntAs : List (AV Γ) → Nat
 | [] => 0
 | v :: r => cntA v + cntAs r
def likeV : Value → Value → Bool
 | .int k _, .int k' _ => kindEq k k'
 | .bool _, .bool _ => true
 | .string _, .string _ => true
 | .slice none 0 0, .slice none 0 0 => true
 | .pointer none, .pointer none => true
 | .nilIface, .nilIface => true
 | .nilFunc, .nilFunc => true
 | .func (.func f) a b, .func (.func g) c d => f == g && (a.size == 0 && (b.size == 0 && (c.size == 0 && d.size == 0)))
 | .pointer (some ⟨g, o, none⟩), .pointer (some ⟨g', o', none⟩) => g == g' && o == o'
 | _, _ => false
def leq2 : Bool → Bool → Bool
 | true, false => false
 | _, _ => true
def leqP : Pv → Pv → Bool
 | .near, _ => true
 | .far, .far => true
 | .far, .mix _ => true
 | .of s, .of t => s == t
 | .of s, .mix t => s == t
 | .mix s, .mix t => s == t
 | _, _ => false
def likeC : CV Γ → CV Γ → Bool
 | .c v, .c u => likeV v u
 | .sl q e _, .sl q' e' _ => leqP q' q && e == e'
 | .sl _ _ _, .c (.slice none 0 0) => true
 | .box s o, .box s' o' => s == s' && o == o'
 | .own s, .own s' => s == s'
 | .rowp s e _ o, .rowp s' e' _ o' => s == s' && (e == e' && o == o')
 | .elp q e _ o, .elp q' e' _ o' => leqP q' q && (e == e' && o == o')
 | .fn f c, .fn f' c' => f == f' && capsEq c c'
 | _, _ => false
def likeL : List (CV Γ) → List (CV Γ) → Bool
 | [], [] => true
 | x :: r, y :: r' => likeC x y && likeL r r'
 | _, _ => false
def likeT : TV Γ → TV Γ → Bool
 | .cell x, .cell y => likeC x y
 | .agg l, .agg l' => likeL l l'
 | _, _ => false
def likeTs : List (TV Γ) → List (TV Γ) → Bool
 | [], [] => true
 | x :: r, y :: r' => likeT x y && likeTs r r'
 | _, _ => false
def likeA : AV Γ → AV Γ → Bool
 | .t x, .t y => likeT x y
 | .tup l, .tup l' => likeTs l l'
 | _, _ => false
def likeB : Blk Γ → Blk Γ → Bool
 | .box t cs, .box t' cs' => t == t' && likeL cs cs'
 | .row q e _, .row q' e' _ => leq2 q' q && e == e'
 | .cold q e _, .cold q' e' _ => leq2 q' q && e == e'
 | .obj κ _, .obj κ' _ => κ == κ'
 | _, _ => false
def likeM : Mem Γ → Mem Γ → Bool
 | [], [] => true
 | (s, b) :: r, (s', b') :: r' => s == s' && (likeB b b' && likeM r r')
 | _, _ => false
def likeO : List (Option (AV Γ)) → List (Option (AV Γ)) → Bool
 | [], [] => true
 | some x :: r, some y :: r' => likeA x y && likeO r r'
 | none :: r, _ :: r' => likeO r r'
 | _, _ => false
def likeAs : List (AV Γ) → List (AV Γ) → Bool
 | [], [] => true
 | x :: r, y :: r' => likeA x y && likeAs r r'
 | _, _ => false
def atV : Value → Value → List (Atom Γ)
 | .int _ _, .int _ n => [.int n]
 | .bool _, .bool b => [.bool b]
 | .string _, .string s => [.str s]
 | _, _ => []
def atC : CV Γ → CV Γ → List (Atom Γ)
 | .c v, .c u => atV v u
 | .sl _ _ _, .sl _ e l => [.sl e l]
 | .sl _ e _, .c _ => [.sl e []]
 | .rowp _ _ _ _, .rowp _ _ i _ => [.int i]
 | .elp _ _ _ _, .elp _ e x _ => [.el e x]
 | _, _ => []
def atL : List (CV Γ) → List (CV Γ) → List (Atom Γ)
 | x :: r, y :: r' => atC x y ++ atL r r'
 | _, _ => []
def atT : TV Γ → TV Γ → List (Atom Γ)
 | .cell x, .cell y => atC x y
 | .agg l, .agg l' => atL l l'
 | _, _ => []
def atTs : List (TV Γ) → List (TV Γ) → List (Atom Γ)
 | x :: r, y :: r' => atT x y ++ atTs r r'
 | _, _ => []
def atA : AV Γ → AV Γ → List (Atom Γ)
 | .t x, .t y => atT x y
 | .tup l, .tup l' => atTs l l'
 | _, _ => []
def atB : Blk Γ → Blk Γ → List (Atom Γ)
 | .box _ cs, .box _ cs' => atL cs cs'
 | .row _ _ _, .row _ e l => [.sl e l]
 | .cold _ _ _, .cold _ e l => [.sl e l]
 | .obj _ _, .obj κ x => [.ob κ x]
 | _, _ => []
def atM : Mem Γ → Mem Γ → List (Atom Γ)
 | (_, b) :: r, (_, b') :: r' => atB b b' ++ atM r r'
 | _, _ => []
def atO : List (Option (AV Γ)) → List (Option (AV Γ)) → List (Atom Γ)
 | some x :: r, some y :: r' => atA x y ++ atO r r'
 | none :: r, _ :: r' => atO r r'
 | _, _ => []
def atAs : List (AV Γ) → List (AV Γ) → List (Atom Γ)
 | x :: r, y :: r' => atA x y ++ atAs r r'
 | _, _ => []
def fillV (az : List (Atom Γ)) (i : Nat) : Value → Value
 | .int k _ => .int k (aI az i)
 | .bool _ => .bool (aB az i)
 | .string _ => .string (aS az i)
 | v => v
def fillC (az : List (Atom Γ)) (i : Nat) : CV Γ → CV Γ
 | .c v => .c (fillV az i v)
 | .sl q e _ => .sl q e (aL e az i)
 | .rowp s e _ o => .rowp s e (aI az i) o
 | .elp q e _ o => .elp q e (aE e az i) o
 | .box s o => .box s o
 | .own s => .own s
 | .fn f c => .fn f c
def fillL (az : List (Atom Γ)) : Nat → List (CV Γ) → List (CV Γ)
 | _, [] => []
 | i, x :: r => fillC az i x :: fillL az (i + cntC x) r
def fillT (az : List (Atom Γ)) (i : Nat) : TV Γ → TV Γ
 | .cell x => .cell (fillC az i x)
 | .agg l => .agg (fillL az i l)
def fillTs (az : List (Atom Γ)) : Nat → List (TV Γ) → List (TV Γ)
 | _, [] => []
 | i, x :: r => fillT az i x :: fillTs az (i + cntT x) r
def fillA (az : List (Atom Γ)) (i : Nat) : AV Γ → AV Γ
 | .t x => .t (fillT az i x)
 | .tup l => .tup (fillTs az i l)
def fillB (az : List (Atom Γ)) (i : Nat) : Blk Γ → Blk Γ
 | .box t cs => .box t (fillL az i cs)
 | .row q e _ => .row q e (aL e az i)
 | .cold q e _ => .cold q e (aL e az i)
 | .obj κ d => .obj κ (aO κ d az i)
def fillM (az : List (Atom Γ)) : Nat → Mem Γ → Mem Γ
 | _, [] => []
 | i, (s, b) :: r => (s, fillB az i b) :: fillM az (i + cntB b) r
def fillO (az : List (Atom Γ)) : Nat → List (Option (AV Γ)) → List (Option (AV Γ))
 | _, [] => []
 | i, some x :: r => some (fillA az i x) :: fillO az (i + cntA x) r
 | i, none :: r => none :: fillO az i r
def fillAs (az : List (Atom Γ)) : Nat → List (AV Γ) → List (AV Γ)
 | _, [] => []
 | i, x :: r => fillA az i x :: fillAs az (i + cntA x) r
def likeSt (p st : St Γ) : Bool := likeO p.tmps st.tmps && (likeM p.mem st.mem && p.pins == st.pins)
def atSt (p st : St Γ) : List (Atom Γ) := atO p.tmps st.tmps ++ atM p.mem st.mem
def fillSt (az : List (Atom Γ)) (p : St Γ) : St Γ := { tmps := fillO az 0 p.tmps, mem := fillM az (cntO p.tmps) p.mem, pins := p.pins }
def tmpsAt : Nat → Nat → List (Nat × AV Γ) → List (Option (AV Γ))
 | 0, _, _ => []
 | n + 1, i, (j, v) :: r => match i == j with
  | true => some v :: tmpsAt n (i + 1) r
  | false => none :: tmpsAt n (i + 1) ((j, v) :: r)
 | n + 1, i, [] => none :: tmpsAt n (i + 1) []
end
end Go.Proofs.YtbbpcbjgekencaaGreatDoor.Ev
end
section
set_option linter.unusedVariables false
set_option linter.unusedSimpArgs false
set_option linter.unusedVariables false
namespace Go.Proofs.YtbbpcbjgekencaaGreatDoor.Ev
open Go
def findCut (t : Nat) : Nat → Code → List Fr → Option Cut
 | n, .seq a b, fs => match t == n with
  | true => some (n + 1 + csize a, b, fs)
  | false => match t.blt (n + 1 + csize a) with
   | true => findCut t (n + 1) a (.seq n (n + 1 + csize a) b :: fs)
   | false => findCut t (n + 1 + csize a) b fs
 | n, .cond _ a b, fs => match t.blt (n + csize a) with
  | true => findCut t n a fs
  | false => findCut t (n + csize a) b fs
 | n, .block id b, fs => findCut t n b (.block id :: fs)
 | n, .loop b, fs => match t == n with
  | true => some (n + 1, b, .loop n b :: fs)
  | false => findCut t (n + 1) b (.loop n b :: fs)
 | _, _, _ => none
def cutOf (fn : Func) (t : Nat) : Option Cut := match fn.body with
 | some c => findCut t 0 c []
 | none => none
section
variable (T : Tab) (P : Program)
def stepAt {ω : Type} (S : FuncId → Option (FnS T.Γ)) (lv : List (Nat × List Nat)) (fn : Func) (K : AV T.Γ → Mem T.Γ → Option ω) (L : Nat → Nat → Cut → St T.Γ → Option ω) (k n : Nat) (st : St T.Γ) : Option ω := match cutOf fn n with
 | some (m, c, fs) => exec T P S lv (finish T fn.results.toList K) k (L k) 1000 m c fs st
 | none => none
end
end Go.Proofs.YtbbpcbjgekencaaGreatDoor.Ev
end
section
set_option linter.unusedVariables false
set_option linter.unusedSimpArgs false
set_option linter.unusedVariables false
namespace Go.Proofs.YtbbpcbjgekencaaGreatDoor.Ev
open Go
structure EvForm (Γ : Sig) where
 refs : List Nat
 args : List (AV Γ)
 lent : Mem Γ
 res : AV Γ
 left : Mem Γ
 R : Type
 f : Nat → List (Atom Γ) → Option R
 tup : List (Atom Γ) → R
 lets : R → List (Atom Γ)
section
variable {Γ : Sig}
def EvForm.spec (F : EvForm Γ) : Spec Γ := fun k xs m ω K => match likeAs F.args xs && likeM F.lent m with
 | true => (F.f k (atAs F.args xs ++ atM F.lent m)).bind fun r => K (fillA (F.lets r) 0 F.res) (fillM (F.lets r) (cntA F.res) F.left)
 | false => none
def EvForm.fn (F : EvForm Γ) : FnS Γ := ⟨F.refs, F.spec⟩
def EvForm.dec (F : EvForm Γ) (v : AV Γ) (m : Mem Γ) : Option F.R := match likeA F.res v && likeM F.left m with
 | true => some (F.tup (atA F.res v ++ atM F.left m))
 | false => none
def findP {β : Type _} : List (Nat × β) → Nat → Option β
 | [], _ => none
 | (q, p) :: r, n => match q == n with
  | true => some p
  | false => findP r n
def Lof {R : Type} (ps : List (Nat × St Γ)) (C : Nat → Nat → List (Atom Γ) → Option R) (k n : Nat) (x : Cut) (st : St Γ) : Option R := match findP ps n with
 | some p => match likeSt p st with
  | true => C k n (atSt p st)
  | false => none
 | none => none
end
end Go.Proofs.YtbbpcbjgekencaaGreatDoor.Ev
end
section
set_option linter.unusedVariables false
set_option linter.unusedSimpArgs false
set_option linter.unusedVariables false
namespace Go.Proofs.YtbbpcbjgekencaaGreatDoor.Ev
open Go
inductive Kn (Γ : Sig) : Type
 | I
 | B
 | S
 | L (e : TypeId)
 | E (e : TypeId)
 | O (κ : Nat) (d : Γ.ob κ)
section
variable {Γ : Sig}
abbrev Kn.ty : Kn Γ → Type
 | .I => Int
 | .B => Bool
 | .S => ByteArray
 | .L e => List (Γ.el e).ty
 | .E e => (Γ.el e).ty
 | .O κ _ => Γ.ob κ
def Kn.get (az : List (Atom Γ)) (i : Nat) : (k : Kn Γ) → k.ty
 | .I => aI az i
 | .B => aB az i
 | .S => aS az i
 | .L e => aL e az i
 | .E e => aE e az i
 | .O κ d => aO κ d az i
def Kn.at : (k : Kn Γ) → k.ty → Atom Γ
 | .I, n => .int n
 | .B, b => .bool b
 | .S, s => .str s
 | .L e, l => .sl e l
 | .E e, x => .el e x
 | .O κ _, x => .ob κ x
def knV : Value → List (Kn Γ)
 | .int .. => [.I]
 | .bool _ => [.B]
 | .string _ => [.S]
 | _ => []
def knC : CV Γ → List (Kn Γ)
 | .c v => knV v
 | .sl _ e _ => [.L e]
 | .rowp .. => [.I]
 | .elp _ e _ _ => [.E e]
 | _ => []
def knL : List (CV Γ) → List (Kn Γ)
 | [] => []
 | x :: r => knC x ++ knL r
def knT : TV Γ → List (Kn Γ)
 | .cell x => knC x
 | .agg l => knL l
def knTs : List (TV Γ) → List (Kn Γ)
 | [] => []
 | x :: r => knT x ++ knTs r
def knA : AV Γ → List (Kn Γ)
 | .t x => knT x
 | .tup l => knTs l
def knB : Blk Γ → List (Kn Γ)
 | .box _ cs => knL cs
 | .row _ e _ => [.L e]
 | .cold _ e _ => [.L e]
 | .obj κ d => [.O κ d]
def knM : Mem Γ → List (Kn Γ)
 | [] => []
 | (_, b) :: r => knB b ++ knM r
def knAs : List (AV Γ) → List (Kn Γ)
 | [] => []
 | v :: r => knA v ++ knAs r
def TupT : List (Kn Γ) → Type
 | [] => Unit
 | [k] => k.ty
 | k :: j :: r => k.ty × TupT (j :: r)
def tupK : (ks : List (Kn Γ)) → Nat → List (Atom Γ) → TupT ks
 | [], _, _ => ()
 | [k], i, az => k.get az i
 | k :: j :: r, i, az => (k.get az i, tupK (j :: r) (i + 1) az)
def letK : (ks : List (Kn Γ)) → TupT ks → List (Atom Γ)
 | [], _ => []
 | [k], x => [k.at x]
 | k :: j :: r, x => k.at x.1 :: letK (j :: r) x.2
def ArgT : List (Kn Γ) → Type → Type
 | [], R => R
 | k :: r, R => k.ty → ArgT r R
def appK {R : Type} : (ks : List (Kn Γ)) → ArgT ks R → Nat → List (Atom Γ) → R
 | [], f, _, _ => f
 | k :: r, f, i, az => appK r (f (k.get az i)) (i + 1) az
def picK (ks : List (Kn Γ)) : List Nat → List (Kn Γ)
 | [] => []
 | i :: r => ks.getD i .I :: picK ks r
def appP {R : Type} (ks : List (Kn Γ)) : (l : List Nat) → ArgT (picK ks l) R → List (Atom Γ) → R
 | [], f, _ => f
 | i :: r, f, az => appP ks r (f ((ks.getD i .I).get az i)) az
structure CutF (Γ : Sig) (R : Type) where
 n : Nat
 p : St Γ
 f : Nat → List (Atom Γ) → Option R
def someAt {β : Type} : Nat → List (Option β) → List Nat
 | _, [] => []
 | i, some _ :: r => i :: someAt (i + 1) r
 | i, none :: r => someAt (i + 1) r
def shp (m : Nat) (l : List (Nat × AV Γ)) (mem : Mem Γ) (pins : Nat) : St Γ := ⟨tmpsAt m 0 l, mem, pins⟩
def knP : List (Nat × AV Γ) → List (Kn Γ)
 | [] => []
 | (_, v) :: r => knA v ++ knP r
def mkC (R : Type) (n m : Nat) (l : List (Nat × AV Γ)) (mem : Mem Γ) (pins : Nat) (live : List Nat) (f : Nat → ArgT (picK (knP l ++ knM mem) live) (Option R)) : CutF Γ R := ⟨n, shp m l mem pins, fun k az => appP _ live (f k) az⟩
abbrev mkF (refs : List Nat) (args : List (AV Γ)) (lent : Mem Γ) (res : AV Γ) (left : Mem Γ) (f : Nat → ArgT (knAs args ++ knM lent) (Option (TupT (knA res ++ knM left)))) : EvForm Γ :=
 ⟨refs, args, lent, res, left, TupT (knA res ++ knM left), fun k az => appK _ (f k) 0 az, tupK _ 0, letK _⟩
def cutC {R : Type} : List (CutF Γ R) → Nat → Nat → List (Atom Γ) → Option R
 | [], _, _, _ => none
 | c :: r, k, n, az => match c.n == n with
  | true => c.f k az
  | false => cutC r k n az
def cutPs {R : Type} : List (CutF Γ R) → List (Nat × St Γ)
 | [] => []
 | c :: r => (c.n, c.p) :: cutPs r
def cutLv {R : Type} : List (CutF Γ R) → List (Nat × List Nat)
 | [] => []
 | c :: r => (c.n, someAt 0 c.p.tmps) :: cutLv r
abbrev qI : CV Γ := .c (.int .i64 0)
abbrev qU : CV Γ := .c (.int .u64 0)
abbrev qW : CV Γ := .c (.int .u32 0)
abbrev qY : CV Γ := .c (.int .u8 0)
abbrev qB : CV Γ := .c (.bool false)
abbrev qS : CV Γ := .c (.string ⟨#[]⟩)
abbrev qf (e : TypeId) : CV Γ := .sl .far e []
abbrev qo (s : Nat) : CV Γ := .own s
abbrev qb (s : Nat) : CV Γ := .box s 0
abbrev tc (x : CV Γ) : AV Γ := .t (.cell x)
abbrev ta (l : List (CV Γ)) : AV Γ := .t (.agg l)
abbrev qr (e : TypeId) : Blk Γ := .row false e []
end
end Go.Proofs.YtbbpcbjgekencaaGreatDoor.Ev
end
section
set_option linter.unusedVariables false
set_option linter.unusedSimpArgs false
set_option linter.unusedVariables false
namespace Go.Proofs.YtbbpcbjgekencaaGreatDoor.Ev
open Go Go.RowKit
structure Env where
 ρ : Nat → Option Nat
 σ : Nat → Value
 φ : Nat → Nat → Prop
 n : Nat := 0
inductive Conc (T : Tab) (E : Env) (B : Pv → Nat → Prop) (w : World) : CV T.Γ → Value → Prop
 | c (v : Value) : Conc T E B w (.c v) v
 | sl0 (p : Pv) (e : TypeId) (A : Option Addr) (cap : Nat) : Conc T E B w (.sl p e []) (.slice A 0 cap)
 | sl (p : Pv) (e : TypeId) (l : List (T.Γ.el e).ty) (g off cap : Nat) (y : Nat → Nat → Value) (hc : l.length ≤ cap) (hB : B p g)
   (hy : ∀ i (h : i < l.length) j cv, (cellsQ T p e l[i])[j]? = some cv → w.cell? ⟨g, off + i * (T.Γ.el e).n + j, none⟩ = some (y i j))
   (hz : ∀ i (h : i < l.length) j cv, (cellsQ T p e l[i])[j]? = some cv → Conc T E B w cv (y i j)) :
   Conc T E B w (.sl p e l) (.slice (some ⟨g, off, none⟩) l.length cap)
 | box (s o g : Nat) (h : E.ρ s = some g) : Conc T E B w (.box s o) (.pointer (some ⟨g, o, none⟩))
 | own (s : Nat) : Conc T E B w (.own s) (E.σ s)
 | rowp (s : Nat) (e : TypeId) (i : Int) (o g : Nat) (h : E.ρ s = some g) : Conc T E B w (.rowp s e i o) (.pointer (some ⟨g, i.toNat * (T.Γ.el e).n + o, none⟩))
 | elp (p : Pv) (e : TypeId) (x : (T.Γ.el e).ty) (o g off : Nat) (y : Nat → Value) (hB : B p g)
   (hy : ∀ j cv, (cellsQ T p e x)[j]? = some cv → w.cell? ⟨g, off + j, none⟩ = some (y j))
   (hz : ∀ j cv, (cellsQ T p e x)[j]? = some cv → Conc T E B w cv (y j)) :
   Conc T E B w (.elp p e x o) (.pointer (some ⟨g, off + o, none⟩))
 | fn (f : FuncId) (caps : List (Nat × Nat)) (vs : Array Value) (hs : vs.size = caps.length)
   (h : ∀ (j s o : Nat), caps[j]? = some (s, o) → ∃ g, E.ρ s = some g ∧ vs[j]? = some (.pointer (some ⟨g, o, none⟩))) :
   Conc T E B w (.fn f caps) (.func (.func f) #[] vs)
def Tab.Stable (T : Tab) : Prop := ∀ e (x : (T.Γ.el e).ty), ∀ cv ∈ T.cells e x, (∃ v, cv = .c v) ∨ ∃ e' l', cv = .sl .near e' l'
section
variable {Γ : Sig}
def CV.tr (f : Nat → Nat) (h : Pv → Pv) : CV Γ → CV Γ
 | .c v => .c v
 | .sl p e l => .sl (h p) e l
 | .box s o => .box (f s) o
 | .own s => .own (f s)
 | .rowp s e i o => .rowp (f s) e i o
 | .elp p e x o => .elp (h p) e x o
 | .fn g caps => .fn g (caps.map fun q => (f q.1, q.2))
def CV.names : CV Γ → List Nat
 | .box s _ | .own s | .rowp s _ _ _ => [s]
 | .fn _ caps => caps.map (·.1)
 | _ => []
def CV.pv : CV Γ → Option Pv
 | .sl p _ _ | .elp p _ _ _ => some p
 | _ => none
theorem tr_id (x : CV Γ) : x.tr id id = x := by
 cases x <;> simp [CV.tr]
theorem tr_ren (f : Nat → Nat) (x : CV Γ) : x.ren f = x.tr f (Pv.ren f) := by
 cases x <;> rfl
theorem tr_cool (n : Nat) (x : CV Γ) : x.cool n = x.tr id (Pv.cool n) := by
 cases x <;> simp [CV.cool, CV.tr]
end
section
variable {T : Tab} {E E' : Env} {B B' : Pv → Nat → Prop} {w w' : World}
theorem atP_eq (p : Pv) : ∀ l : List (CV T.Γ), atP T p l = l.map (CV.at p)
 | [] => rfl
 | x :: r => by simp [atP, atP_eq p r]
theorem cellsQ_at (hT : T.Stable) (p : Pv) (e : TypeId) (x : (T.Γ.el e).ty) : cellsQ T p e x = (T.cells e x).map (CV.at p) := by
 cases p with
 | near =>
  show T.cells e x = _
  have : ∀ l : List (CV T.Γ), (∀ cv ∈ l, (∃ v, cv = .c v) ∨ ∃ e' l', cv = .sl .near e' l') → l = l.map (CV.at .near) := by
   intro l
   induction l with
   | nil => intro _; rfl
   | cons y r ih =>
    intro h
    rw [List.map_cons, ← ih (fun cv hc => h cv (List.mem_cons_of_mem _ hc))]
    rcases h y List.mem_cons_self with ⟨v, rfl⟩ | ⟨e', l', rfl⟩ <;> rfl
  exact this _ (hT e x)
 | far => exact atP_eq _ _
 | of s => exact atP_eq _ _
 | mix s => exact atP_eq _ _
theorem cell_form (hT : T.Stable) {p : Pv} {e : TypeId} {x : (T.Γ.el e).ty} {cv : CV T.Γ} (h : cv ∈ cellsQ T p e x) : (∃ v, cv = .c v) ∨ ∃ e' l', cv = .sl p e' l' := by
 rw [cellsQ_at hT] at h
 obtain ⟨y, hy, rfl⟩ := List.mem_map.mp h
 rcases hT e x y hy with ⟨v, rfl⟩ | ⟨e', l', rfl⟩
 ·exact .inl ⟨v, rfl⟩
 ·exact .inr ⟨e', l', rfl⟩
theorem cellsQ_length (hT : T.Stable) (p : Pv) (e : TypeId) (x : (T.Γ.el e).ty) : (cellsQ T p e x).length = (T.cells e x).length := by
 rw [cellsQ_at hT, List.length_map]
theorem cellsQ_tr (hT : T.Stable) (f : Nat → Nat) (h : Pv → Pv) (p : Pv) (e : TypeId) (x : (T.Γ.el e).ty) : cellsQ T (h p) e x = (cellsQ T p e x).map (CV.tr f h) := by
 rw [cellsQ_at hT, cellsQ_at hT, List.map_map]
 refine List.map_congr_left fun cv hc => ?_
 rcases hT e x cv hc with ⟨v, rfl⟩ | ⟨e', l', rfl⟩ <;> rfl
structure Tr (E : Env) (B : Pv → Nat → Prop) (w : World) (E' : Env) (B' : Pv → Nat → Prop) (w' : World) (f : Nat → Nat) (h : Pv → Pv) (x : CV T.Γ) : Prop where
 names : ∀ s ∈ x.names, E'.ρ (f s) = E.ρ s ∧ E'.σ (f s) = E.σ s
 pv : ∀ p, x.pv = some p → ∀ g, B p g → B' (h p) g ∧ ∀ o u, w.cell? ⟨g, o, none⟩ = some u → w'.cell? ⟨g, o, none⟩ = some u
theorem Conc.tr {f : Nat → Nat} {h : Pv → Pv} {x : CV T.Γ} {v : Value} (hT : T.Stable) (hx : Tr E B w E' B' w' f h x) (hc : Conc T E B w x v) : Conc T E' B' w' (x.tr f h) v := by
 induction hc with
 | c v => exact .c v
 | sl0 p e A cap => exact .sl0 _ e A cap
 | sl p e l g off cap y hcap hB hy hz ih =>
  have hp := hx.pv p rfl
  have key : ∀ i (hi : i < l.length) (j : Nat) cv', (cellsQ T (h p) e l[i])[j]? = some cv' → ∃ cv : CV T.Γ, (cellsQ T p e l[i])[j]? = some cv ∧ cv' = cv.tr f h := by
   intro i hi j cv' hj
   rw [cellsQ_tr hT f h, List.getElem?_map] at hj
   cases hq : (cellsQ T p e l[i])[j]? with
   | none => rw [hq] at hj; cases hj
   | some cv => rw [hq] at hj; simp only [Option.map_some, Option.some.injEq] at hj; exact ⟨cv, rfl, hj.symm⟩
  refine .sl _ e l g off cap y hcap (hp g hB).1 (fun i hi j cv' hj => ?_) (fun i hi j cv' hj => ?_)
  ·obtain ⟨cv, h1, h2⟩ := key i hi j cv' hj
   exact (hp g hB).2 _ _ (hy i hi j cv h1)
  ·obtain ⟨cv, h1, rfl⟩ := key i hi j cv' hj
   refine ih i hi j cv h1 ⟨fun s hs => ?_, fun q hq => ?_⟩
   ·rcases cell_form hT (List.mem_of_getElem? h1) with ⟨v, rfl⟩ | ⟨e', l', rfl⟩ <;> simp [CV.names] at hs
   ·rcases cell_form hT (List.mem_of_getElem? h1) with ⟨v, rfl⟩ | ⟨e', l', rfl⟩
    ·simp [CV.pv] at hq
    ·simp only [CV.pv, Option.some.injEq] at hq
     subst hq
     exact hp
 | box s o g hg => exact .box _ o g (((hx.names s (by simp [CV.names])).1).trans hg)
 | own s =>
  rw [← (hx.names s (by simp [CV.names])).2]
  exact .own _
 | rowp s e i o g hg => exact .rowp _ e i o g (((hx.names s (by simp [CV.names])).1).trans hg)
 | elp p e x o g off y hB hy hz ih =>
  have hp := hx.pv p rfl
  have key : ∀ (j : Nat) cv', (cellsQ T (h p) e x)[j]? = some cv' → ∃ cv : CV T.Γ, (cellsQ T p e x)[j]? = some cv ∧ cv' = cv.tr f h := by
   intro j cv' hj
   rw [cellsQ_tr hT f h, List.getElem?_map] at hj
   cases hq : (cellsQ T p e x)[j]? with
   | none => rw [hq] at hj; cases hj
   | some cv => rw [hq] at hj; simp only [Option.map_some, Option.some.injEq] at hj; exact ⟨cv, rfl, hj.symm⟩
  refine .elp _ e x o g off y (hp g hB).1 (fun j cv' hj => ?_) (fun j cv' hj => ?_)
  ·obtain ⟨cv, h1, h2⟩ := key j cv' hj
   exact (hp g hB).2 _ _ (hy j cv h1)
  ·obtain ⟨cv, h1, rfl⟩ := key j cv' hj
   refine ih j cv h1 ⟨fun s hs => ?_, fun q hq => ?_⟩
   ·rcases cell_form hT (List.mem_of_getElem? h1) with ⟨v, rfl⟩ | ⟨e', l', rfl⟩ <;> simp [CV.names] at hs
   ·rcases cell_form hT (List.mem_of_getElem? h1) with ⟨v, rfl⟩ | ⟨e', l', rfl⟩
    ·simp [CV.pv] at hq
    ·simp only [CV.pv, Option.some.injEq] at hq
     subst hq
     exact hp
 | fn g caps vs hs hh =>
  refine .fn g _ vs (by simpa using hs) (fun j s o hj => ?_)
  rw [List.getElem?_map] at hj
  cases hq : caps[j]? with
  | none => rw [hq] at hj; cases hj
  | some q =>
   rw [hq] at hj
   simp only [Option.map_some, Option.some.injEq, Prod.mk.injEq] at hj
   obtain ⟨rfl, rfl⟩ := hj
   obtain ⟨g', h1, h2⟩ := hh j q.1 q.2 hq
   have hm : q.1 ∈ (CV.fn (Γ := T.Γ) g caps).names := List.mem_map.mpr ⟨q, List.mem_of_getElem? hq, rfl⟩
   exact ⟨g', ((hx.names _ hm).1).trans h1, h2⟩
def ConcL (T : Tab) (E : Env) (B : Pv → Nat → Prop) (w : World) (l : List (CV T.Γ)) (vs : List Value) : Prop :=
 vs.length = l.length ∧ ∀ (j : Nat) cv v, l[j]? = some cv → vs[j]? = some v → Conc T E B w cv v
inductive ConcT (T : Tab) (E : Env) (B : Pv → Nat → Prop) (w : World) : TV T.Γ → Value → Prop
 | cell {x v} (h : Conc T E B w x v) : ConcT T E B w (.cell x) v
 | agg {l vs} (h : ConcL T E B w l vs.toList) : ConcT T E B w (.agg l) (.agg vs)
inductive ConcA (T : Tab) (E : Env) (B : Pv → Nat → Prop) (w : World) : AV T.Γ → Value → Prop
 | t {x v} (h : ConcT T E B w x v) : ConcA T E B w (.t x) v
 | tup {l : List (TV T.Γ)} {vs : Array Value} (hl : vs.size = l.length) (h : ∀ (j : Nat) x v, l[j]? = some x → vs[j]? = some v → ConcT T E B w x v) : ConcA T E B w (.tup l) (.tuple vs)
def TV.cs {Γ : Sig} : TV Γ → List (CV Γ)
 | .cell x => [x]
 | .agg l => l
def csT {Γ : Sig} : List (TV Γ) → List (CV Γ)
 | [] => []
 | x :: r => x.cs ++ csT r
def AV.cs {Γ : Sig} : AV Γ → List (CV Γ)
 | .t x => x.cs
 | .tup l => csT l
def TV.tr {Γ : Sig} (f : Nat → Nat) (h : Pv → Pv) : TV Γ → TV Γ
 | .cell x => .cell (x.tr f h)
 | .agg l => .agg (l.map (CV.tr f h))
def AV.tr {Γ : Sig} (f : Nat → Nat) (h : Pv → Pv) : AV Γ → AV Γ
 | .t x => .t (x.tr f h)
 | .tup l => .tup (l.map (TV.tr f h))
theorem mem_csT {Γ : Sig} {l : List (TV Γ)} {x : TV Γ} (h : x ∈ l) {c : CV Γ} (hc : c ∈ x.cs) : c ∈ csT l := by
 induction l with
 | nil => cases h
 | cons y r ih =>
  simp only [csT, List.mem_append]
  cases h with
  | head => exact .inl hc
  | tail _ h => exact .inr (ih h)
theorem ConcL.tr {f : Nat → Nat} {h : Pv → Pv} {l : List (CV T.Γ)} {vs : List Value} (hT : T.Stable) (hx : ∀ x ∈ l, Tr E B w E' B' w' f h x) (hc : ConcL T E B w l vs) : ConcL T E' B' w' (l.map (CV.tr f h)) vs := by
 refine ⟨by rw [List.length_map]; exact hc.1, fun j cv v h1 h2 => ?_⟩
 rw [List.getElem?_map] at h1
 cases hq : l[j]? with
 | none => rw [hq] at h1; cases h1
 | some x =>
  rw [hq] at h1
  simp only [Option.map_some, Option.some.injEq] at h1
  subst h1
  exact (hc.2 j x v hq h2).tr hT (hx x (List.mem_of_getElem? hq))
theorem ConcT.tr {f : Nat → Nat} {h : Pv → Pv} {x : TV T.Γ} {v : Value} (hT : T.Stable) (hx : ∀ c ∈ x.cs, Tr E B w E' B' w' f h c) (hc : ConcT T E B w x v) : ConcT T E' B' w' (x.tr f h) v := by
 cases hc with
 | cell hc => exact .cell (hc.tr hT (hx _ (by simp [TV.cs])))
 | agg hc => exact .agg (hc.tr hT hx)
theorem ConcA.tr {f : Nat → Nat} {h : Pv → Pv} {x : AV T.Γ} {v : Value} (hT : T.Stable) (hx : ∀ c ∈ x.cs, Tr E B w E' B' w' f h c) (hc : ConcA T E B w x v) : ConcA T E' B' w' (x.tr f h) v := by
 cases hc with
 | t hc => exact .t (hc.tr hT hx)
 | @tup l vs hl hc =>
  refine .tup (by rw [List.length_map]; exact hl) (fun j x v h1 h2 => ?_)
  rw [List.getElem?_map] at h1
  cases hq : l[j]? with
  | none => rw [hq] at h1; cases h1
  | some y =>
   rw [hq] at h1
   simp only [Option.map_some, Option.some.injEq] at h1
   subst h1
   exact (hc j y v hq h2).tr hT (fun c hcs => hx c (mem_csT (List.mem_of_getElem? hq) hcs))
theorem map_tr_id {Γ : Sig} (l : List (CV Γ)) : l.map (CV.tr id id) = l := by
 induction l with
 | nil => rfl
 | cons x r ih => rw [List.map_cons, ih, tr_id]
theorem TV.tr_id {Γ : Sig} (x : TV Γ) : x.tr id id = x := by
 cases x with
 | cell x => simp [TV.tr, Ev.tr_id]
 | agg l => simp [TV.tr, map_tr_id]
theorem AV.tr_id {Γ : Sig} (x : AV Γ) : x.tr id id = x := by
 cases x with
 | t x => simp [AV.tr, TV.tr_id]
 | tup l =>
  simp only [AV.tr]
  congr 1
  induction l with
  | nil => rfl
  | cons x r ih => rw [List.map_cons, ih, TV.tr_id]
structure Stay (E : Env) (B : Pv → Nat → Prop) (w : World) (E' : Env) (B' : Pv → Nat → Prop) (w' : World) (x : CV T.Γ) : Prop where
 names : ∀ s ∈ x.names, E'.ρ s = E.ρ s ∧ E'.σ s = E.σ s
 pv : ∀ p, x.pv = some p → ∀ g, B p g → B' p g ∧ w'.heap[g]? = w.heap[g]?
theorem Stay.tr {x : CV T.Γ} (h : Stay E B w E' B' w' x) : Tr E B w E' B' w' id id x :=
 ⟨h.names, fun p hp g hg => ⟨(h.pv p hp g hg).1, fun o u hu => by
  simp only [World.cell?] at hu ⊢
  rw [(h.pv p hp g hg).2]
  exact hu⟩⟩
theorem Conc.stay {x : CV T.Γ} {v : Value} (hT : T.Stable) (hx : Stay E B w E' B' w' x) (hc : Conc T E B w x v) : Conc T E' B' w' x v := by
 have := hc.tr hT hx.tr
 rwa [tr_id] at this
theorem ConcL.stay {l : List (CV T.Γ)} {vs : List Value} (hT : T.Stable) (hx : ∀ x ∈ l, Stay E B w E' B' w' x) (hc : ConcL T E B w l vs) : ConcL T E' B' w' l vs :=
 ⟨hc.1, fun j cv v h1 h2 => (hc.2 j cv v h1 h2).stay hT (hx cv (List.mem_of_getElem? h1))⟩
theorem ConcA.stay {x : AV T.Γ} {v : Value} (hT : T.Stable) (hx : ∀ c ∈ x.cs, Stay E B w E' B' w' c) (hc : ConcA T E B w x v) : ConcA T E' B' w' x v := by
 have := hc.tr hT (fun c h => (hx c h).tr)
 rwa [AV.tr_id] at this
end
end Go.Proofs.YtbbpcbjgekencaaGreatDoor.Ev
end
section
set_option linter.unusedVariables false
set_option linter.unusedSimpArgs false
set_option linter.unusedVariables false
namespace Go.Proofs.YtbbpcbjgekencaaGreatDoor.Ev
open Go Go.RowKit
inductive BlkOk (T : Tab) (E : Env) (B : Pv → Nat → Prop) (w : World) (s : Nat) : Blk T.Γ → Prop
 | box (t : TypeId) (cs : List (CV T.Γ)) (g : Nat) (vs : Array Value) (hg : E.ρ s = some g) (hf : ∀ g', E.φ s g' ↔ g' = g) (hh : w.heap[g]? = some (.cells vs t (0, 0))) (h : ConcL T E B w cs vs.toList) : BlkOk T E B w s (.box t cs)
 | row (q : Bool) (e : TypeId) (l : List (T.Γ.el e).ty) (g cap : Nat) (vs : Array Value) (hg : E.ρ s = some g) (hf : ∀ g', E.φ s g' ↔ g' = g) (hh : w.heap[g]? = some (.cells vs e (0, 0)))
   (hs : E.σ s = .slice (some ⟨g, 0, none⟩) l.length cap) (hc : l.length ≤ cap) (hv : vs.size = cap * (T.Γ.el e).n ∧ cap ≤ maxLen)
   (h : ∀ i (h : i < l.length) j cv, (cellsQ T (pvOf q) e l[i])[j]? = some cv → ∃ y, vs[i * (T.Γ.el e).n + j]? = some y ∧ Conc T E B w cv y) : BlkOk T E B w s (.row q e l)
 | nil (q : Bool) (e : TypeId) (hf : ∀ g, ¬ E.φ s g) (hs : E.σ s = .slice none 0 0) : BlkOk T E B w s (.row q e [])
 | cold (q : Bool) (e : TypeId) (l : List (T.Γ.el e).ty) (h : Conc T E B w (.sl (pvOf q) e l) (E.σ s)) : BlkOk T E B w s (.cold q e l)
 | obj (κ : Nat) (x : T.Γ.ob κ) (h : T.rep κ x (E.σ s) w (E.φ s)) : BlkOk T E B w s (.obj κ x)
def OwnBy {T : Tab} (E : Env) (m : Mem T.Γ) (s g : Nat) : Prop := ∃ b, m.get s = some b ∧ b.hot = true ∧ E.φ s g
def Own {T : Tab} (E : Env) (m : Mem T.Γ) (g : Nat) : Prop := ∃ s, OwnBy E m s g
structure TabOk (T : Tab) (P : Program) : Prop where
 stable : T.Stable
 und : ∀ e d, T.und e = some d → P.underlying e = some d
 size : ∀ e n, T.size e = some n → (P.info? e).map (·.size) = some n
 zero : ∀ e z, T.zero e = some z → ∃ i v, P.info? e = some i ∧ i.zero = some v ∧ v.cells.toList = z
 count : ∀ e (x : (T.Γ.el e).ty), (T.cells e x).length = (T.Γ.el e).n
 enc : ∀ e l x, T.enc e l = some x → l.length = (T.cells e x).length ∧ ∀ (j : Nat) a b, l[j]? = some a → (T.cells e x)[j]? = some b →
  (∃ v, a = .c v ∧ b = .c v) ∨ (∃ p e' l', a = .sl p e' l' ∧ b = .sl .near e' l') ∨ (∃ e', a = .c (.slice none 0 0) ∧ b = .sl .near e' [])
 std : ∀ e, T.std e = true → T.size e = some (T.Γ.el e).n ∧ 0 < (T.Γ.el e).n ∧ (T.Γ.el e).n ≤ 64 ∧ ∃ z, T.zero e = some z ∧ (z.length = (T.cells e (T.Γ.el e).z).length ∧ ∀ (j : Nat) a b, z[j]? = some a → (T.cells e (T.Γ.el e).z)[j]? = some b → b = .c a ∨ ((∃ e', b = .sl .near e' []) ∧ a = .slice none 0 0)) ∧ (∀ v ∈ z, plain v = true)
 bytes : ∀ e, T.std e = true → ∀ i, P.info? e = some i → 0 < i.bytes ∧ i.bytes ≤ 128
 flat : ∀ e, T.flat e = true → ∀ (x : (T.Γ.el e).ty), ∀ cv ∈ T.cells e x, ∃ v, cv = .c v
 frame : ∀ κ x v w w' φ, T.rep κ x v w φ → (∀ g, φ g → w'.heap[g]? = w.heap[g]?) → T.rep κ x v w' φ
 inside : ∀ κ x v w φ, T.rep κ x v w φ → ∀ g, φ g → g < w.heap.size
 one : ∀ κ x v w φ, T.rep κ x v w φ → v.cells = #[v] ∧ v.oneCell' = true
 mixed : P.follows .mixedOrders = true
 depth : 2 ≤ P.depth
 single : ∀ e (x : (T.Γ.el e).ty) (v : Value), CV.c v ∈ T.cells e x → v.oneCell' = true
section
variable {T : Tab} {P : Program} {E E' : Env} {B B' : Pv → Nat → Prop} {w w' : World}
theorem lt_size {w : World} {g : Nat} {o : Obj} (h : w.heap[g]? = some o) : g < w.heap.size := (Array.getElem?_eq_some_iff.mp h).1
theorem BlkOk.inside (hT : TabOk T P) {s : Nat} {b : Blk T.Γ} (h : BlkOk T E B w s b) (hh : b.hot = true) : ∀ g, E.φ s g → g < w.heap.size := by
 intro g hg
 cases h with
 | box t cs g' vs h1 hf h2 h => have := (hf g).mp hg; subst this; exact lt_size h2
 | row q e l g' cap vs h1 hf h2 hs hc hv h => have := (hf g).mp hg; subst this; exact lt_size h2
 | nil q e hf hs => exact absurd hg (hf g)
 | cold q e l h => cases hh
 | obj κ x h => exact hT.inside κ x _ w _ h g hg
def Blk.cs {Γ : Sig} : Blk Γ → List (CV Γ)
 | .box _ cs => cs
 | _ => []
def Blk.pv {Γ : Sig} : Blk Γ → Option Pv
 | .row q _ _ | .cold q _ _ => some (pvOf q)
 | _ => none
theorem BlkOk.stay (hT : TabOk T P) {s : Nat} {b : Blk T.Γ} (hs : E'.ρ s = E.ρ s ∧ E'.σ s = E.σ s ∧ E'.φ s = E.φ s) (hφ : b.hot = true → ∀ g, E.φ s g → w'.heap[g]? = w.heap[g]?)
  (hc : ∀ c ∈ b.cs, Stay E B w E' B' w' c) (hp : ∀ p, b.pv = some p → ∀ g, B p g → B' p g ∧ w'.heap[g]? = w.heap[g]?) (h : BlkOk T E B w s b) : BlkOk T E' B' w' s b := by
 cases h with
 | box t cs g vs hg hf hh h =>
  refine .box t cs g vs (hs.1.trans hg) (by rw [hs.2.2]; exact hf) ?_ (h.stay hT.stable hc)
  rw [hφ rfl g ((hf g).mpr rfl)]; exact hh
 | row q e l g cap vs hg hf hh hsv hcap hv h =>
  refine .row q e l g cap vs (hs.1.trans hg) (by rw [hs.2.2]; exact hf) ?_ (hs.2.1.trans hsv) hcap hv (fun i hi j cv hj => ?_)
  ·rw [hφ rfl g ((hf g).mpr rfl)]; exact hh
  ·obtain ⟨y, hy, hz⟩ := h i hi j cv hj
   refine ⟨y, hy, hz.stay hT.stable ?_⟩
   rcases cell_form hT.stable (List.mem_of_getElem? hj) with ⟨v, rfl⟩ | ⟨e', l', rfl⟩
   ·exact ⟨fun s h => by simp [CV.names] at h, fun p h => by simp [CV.pv] at h⟩
   ·exact ⟨fun s h => by simp [CV.names] at h, fun p h => by simp only [CV.pv, Option.some.injEq] at h; subst h; exact hp _ rfl⟩
 | nil q e hf hsv => exact .nil q e (by rw [hs.2.2]; exact hf) (hs.2.1.trans hsv)
 | cold q e l h =>
  refine .cold q e l ?_
  rw [hs.2.1]
  exact h.stay hT.stable ⟨fun s h => by simp [CV.names] at h, fun p h => by simp only [CV.pv, Option.some.injEq] at h; subst h; exact hp _ rfl⟩
 | obj κ x h =>
  refine .obj κ x ?_
  rw [hs.2.1, hs.2.2]
  exact hT.frame κ x _ w w' _ h (hφ rfl)
structure MemOk (T : Tab) (E : Env) (B : Pv → Nat → Prop) (w : World) (m : Mem T.Γ) : Prop where
 blk : ∀ s b, m.get s = some b → BlkOk T E B w s b
 apart : ∀ s s' g, OwnBy E m s g → OwnBy E m s' g → s = s'
structure Kept (O : Nat → Prop) (w w' : World) : Prop where
 os : w'.os = w.os
 tape : w'.tape = w.tape
 output : w'.output = w.output
 size : w.heap.size ≤ w'.heap.size
 block : ∀ k, k < w.heap.size → ¬ O k → w'.heap[k]? = w.heap[k]?
theorem Kept.refl (O : Nat → Prop) (w : World) : Kept O w w := ⟨rfl, rfl, rfl, Nat.le_refl _, fun _ _ _ => rfl⟩
def Stb {T : Tab} (N F : Nat → Prop) (E : Env) (m : Mem T.Γ) (w : World) : Pv → Nat → Prop
 | .near, g => g < w.heap.size ∧ ¬ Own E m g ∧ N g
 | .far, g => g < w.heap.size ∧ ¬ Own E m g ∧ (N g ∨ F g)
 | .of s, g => g < w.heap.size ∧ ((¬ Own E m g ∧ N g) ∨ OwnBy E m s g)
 | .mix s, g => g < w.heap.size ∧ ((¬ Own E m g ∧ (N g ∨ F g)) ∨ OwnBy E m s g)
theorem Stb.lt {N F : Nat → Prop} {m : Mem T.Γ} {p : Pv} {g : Nat} (h : Stb N F E m w p g) : g < w.heap.size := by
 cases p <;> exact h.1
def GlobOk (T : Tab) (E : Env) (m : Mem T.Γ) (w : World) : Prop := ∀ x ∈ T.globs, ¬ Own E m x.1 ∧ w.cell? ⟨x.1, x.2.1, none⟩ = some x.2.2
structure Rel (T : Tab) (W : World) (O A : Nat → Prop) (E0 E : Env) (st : St T.Γ) (a : Act) (w : World) : Prop where
 defers : a.defers = []
 size : a.tmps.size = st.tmps.length
 tmps : ∀ (t : Nat) v, st.tmps[t]? = some (some v) → ∃ x, a.tmps[t]? = some x ∧ ConcA T E (Stb (fun g => W.heap.size ≤ g ∨ O g) A E st.mem w) w v x
 mem : MemOk T E (Stb (fun g => W.heap.size ≤ g ∨ O g) A E st.mem w) w st.mem
 mine : ∀ g, Own E st.mem g → W.heap.size ≤ g ∨ O g
 kept : Kept O W w
 glob : GlobOk T E st.mem w
 pin : st.pins = E0.n ∧ ∀ i, i < E0.n → E.ρ i = E0.ρ i ∧ E.σ i = E0.σ i ∧ E.φ i = E0.φ i
end
end Go.Proofs.YtbbpcbjgekencaaGreatDoor.Ev
end
section
set_option linter.unusedVariables false
set_option linter.unusedSimpArgs false
set_option linter.unusedVariables false
namespace Go.Proofs.YtbbpcbjgekencaaGreatDoor.Ev
open Go Go.RowKit
section
variable {Γ : Sig}
theorem idx_at : ∀ (acc : List Nat) (s : Nat), s ∈ acc → acc[idx acc s]? = some s := by
 intro acc
 induction acc with
 | nil => intro s h; cases h
 | cons q r ih =>
  intro s h
  simp only [idx]
  by_cases e : (q == s) = true
  ·rw [if_pos e]; simp [beq_iff_eq.mp e]
  ·rw [if_neg e, List.getElem?_cons_succ]
   refine ih s ?_
   cases h with
   | head => simp at e
   | tail _ h => exact h
theorem idx_getD {acc : List Nat} {s : Nat} (h : s ∈ acc) : acc.getD (idx acc s) 0 = s := by
 rw [List.getD_eq_getElem?_getD, idx_at acc s h]; rfl
theorem elem_iff {l : List Nat} {s : Nat} : l.elem s = true ↔ s ∈ l := by simp
theorem reach_spec (m : Mem Γ) : ∀ (n : Nat) (todo acc0 acc : List Nat), reach m n todo acc0 = some acc → acc0.Nodup →
  acc.Nodup ∧ acc0 <+: acc ∧ (∀ s ∈ todo, s ∈ acc) ∧ ((∀ s ∈ acc0, ∀ b, m.get s = some b → ∀ t ∈ b.sites, t ∈ acc0 ∨ t ∈ todo) → ∀ s ∈ acc, ∀ b, m.get s = some b → ∀ t ∈ b.sites, t ∈ acc) := by
 intro n
 induction n with
 | zero => intro todo acc0 acc h; cases h
 | succ n ih =>
  intro todo acc0 acc h hd
  cases todo with
  | nil =>
   simp only [reach, Option.some.injEq] at h
   subst h
   exact ⟨hd, List.prefix_refl _, (fun s h => by cases h), fun hc s hs b hb t ht => (hc s hs b hb t ht).resolve_right (by simp)⟩
  | cons s r =>
   simp only [reach] at h
   cases he : acc0.elem s with
   | true =>
    rw [he] at h
    obtain ⟨h1, h2, h3, h4⟩ := ih r acc0 acc h hd
    have hs : s ∈ acc0 := elem_iff.mp he
    refine ⟨h1, h2, fun t ht => ?_, fun hc => h4 (fun q hq b hb t ht => ?_)⟩
    ·cases ht with
     | head => exact h2.subset hs
     | tail _ ht => exact h3 t ht
    ·rcases hc q hq b hb t ht with h | h
     ·exact .inl h
     ·cases h with
      | head => exact .inl hs
      | tail _ h => exact .inr h
   | false =>
    rw [he] at h
    have hs : ¬ s ∈ acc0 := fun h => by rw [elem_iff.mpr h] at he; cases he
    have hd' : (acc0 ++ [s]).Nodup := by
     rw [List.nodup_append]
     exact ⟨hd, by simp, fun a ha b hb => by simp at hb; subst hb; exact fun e => hs (e ▸ ha)⟩
    cases hg : m.get s with
    | none =>
     rw [hg] at h
     obtain ⟨h1, h2, h3, h4⟩ := ih r (acc0 ++ [s]) acc h hd'
     refine ⟨h1, (List.prefix_append _ _).trans h2, fun t ht => ?_, fun hc => h4 (fun q hq b hb t ht => ?_)⟩
     ·cases ht with
      | head => exact h2.subset (by simp)
      | tail _ ht => exact h3 t ht
     ·rcases List.mem_append.mp hq with hq | hq
      ·rcases hc q hq b hb t ht with h | h
       ·exact .inl (List.mem_append_left _ h)
       ·cases h with
        | head => exact .inl (by simp)
        | tail _ h => exact .inr h
      ·simp at hq; subst hq; rw [hg] at hb; cases hb
    | some b0 =>
     rw [hg] at h
     obtain ⟨h1, h2, h3, h4⟩ := ih (b0.sites ++ r) (acc0 ++ [s]) acc h hd'
     refine ⟨h1, (List.prefix_append _ _).trans h2, fun t ht => ?_, fun hc => h4 (fun q hq b hb t ht => ?_)⟩
     ·cases ht with
      | head => exact h2.subset (by simp)
      | tail _ ht => exact h3 t (List.mem_append_right _ ht)
     ·rcases List.mem_append.mp hq with hq | hq
      ·rcases hc q hq b hb t ht with h | h
       ·exact .inl (List.mem_append_left _ h)
       ·cases h with
        | head => exact .inl (by simp)
        | tail _ h => exact .inr (List.mem_append_right _ h)
      ·simp at hq; subst hq; rw [hg] at hb; cases hb; exact .inr (List.mem_append_left _ ht)
theorem lend_get (m : Mem Γ) (f : Nat → Nat) : ∀ (acc : List Nat) (i0 i : Nat), (lend m f i0 acc).get i = if i0 ≤ i then (acc[i - i0]?).bind fun s => (m.get s).map (Blk.ren f) else none := by
 intro acc
 induction acc with
 | nil => intro i0 i; simp [lend, Mem.get]
 | cons s r ih =>
  intro i0 i
  simp only [lend]
  cases hg : m.get s with
  | none =>
   simp only
   rw [ih]
   by_cases h1 : i0 + 1 ≤ i
   ·rw [if_pos h1, if_pos (by omega), show i - i0 = (i - (i0 + 1)) + 1 by omega, List.getElem?_cons_succ]
   ·rw [if_neg h1]
    by_cases h2 : i0 ≤ i
    ·have : i = i0 := by omega
     subst this
     simp [hg]
    ·rw [if_neg h2]
  | some b =>
   simp only [Mem.get]
   by_cases e : (i0 == i) = true
   ·have e2 := beq_iff_eq.mp e
    subst e2
    rw [if_pos e]; simp [hg]
   ·rw [if_neg e, ih]
    have e2 : i0 ≠ i := fun h => e (by simp [h])
    by_cases h1 : i0 + 1 ≤ i
    ·rw [if_pos h1, if_pos (by omega), show i - i0 = (i - (i0 + 1)) + 1 by omega, List.getElem?_cons_succ]
    ·rw [if_neg h1, if_neg (by omega)]
theorem allKnown_spec {m : Mem Γ} {n : Nat} : ∀ {l : List Nat}, allKnown m n l = true → ∀ s ∈ l, s < n ∨ ∃ b, m.get s = some b := by
 intro l
 induction l with
 | nil => intro _ s h; cases h
 | cons q r ih =>
  intro h s hs
  simp only [allKnown] at h
  split at h
  ·rename_i hq
   cases hs with
   | head =>
    simp only [Bool.or_eq_true] at hq
    rcases hq with hq | hq
    ·exact .inl (by simp [Nat.blt] at hq; omega)
    ·simp only [Mem.has, Option.isSome_iff_exists] at hq; exact .inr hq
   | tail _ hs => exact ih h s hs
  ·cases h
theorem names_sites {x : CV Γ} {s : Nat} (h : s ∈ x.names) : s ∈ x.sites := by
 cases x <;> simp [CV.names] at h <;> simp [CV.sites, h]
theorem views_sites {x : CV Γ} {s : Nat} (h : s ∈ x.views) : s ∈ x.sites := by
 cases x <;> simp [CV.views] at h <;> simp [CV.sites, h]
theorem pv_views {x : CV Γ} {s : Nat} (h : x.pv = some (.of s) ∨ x.pv = some (.mix s)) : s ∈ x.views := by
 rcases h with h | h <;> cases x <;> simp [CV.pv] at h <;> simp [CV.views, h, Pv.sites]
theorem sitesL_mem {l : List (CV Γ)} {x : CV Γ} (h : x ∈ l) {s : Nat} (hs : s ∈ x.sites) : s ∈ sitesL l := by
 induction l with
 | nil => cases h
 | cons y r ih =>
  simp only [sitesL, List.mem_append]
  cases h with
  | head => exact .inl hs
  | tail _ h => exact .inr (ih h)
theorem TV.sites_mem {v : TV Γ} {x : CV Γ} (h : x ∈ v.cs) {s : Nat} (hs : s ∈ x.sites) : s ∈ v.sites := by
 cases v with
 | cell y => simp [TV.cs] at h; subst h; exact hs
 | agg l => exact sitesL_mem h hs
theorem sitesT_mem {l : List (TV Γ)} {x : CV Γ} (h : x ∈ csT l) {s : Nat} (hs : s ∈ x.sites) : s ∈ sitesT l := by
 induction l with
 | nil => cases h
 | cons y r ih =>
  simp only [sitesT, List.mem_append]
  simp only [csT, List.mem_append] at h
  rcases h with h | h
  ·exact .inl (TV.sites_mem h hs)
  ·exact .inr (ih h)
theorem AV.sites_mem {v : AV Γ} {x : CV Γ} (h : x ∈ v.cs) {s : Nat} (hs : s ∈ x.sites) : s ∈ v.sites := by
 cases v with
 | t y => exact TV.sites_mem h hs
 | tup l => exact sitesT_mem h hs
theorem renL_map (f : Nat → Nat) (l : List (CV Γ)) : renL f l = l.map (CV.ren f) := by
 induction l with
 | nil => rfl
 | cons x r ih => simp [renL, ih]
theorem ren_tr (f : Nat → Nat) : CV.ren (Γ := Γ) f = CV.tr f (Pv.ren f) := funext (tr_ren f)
theorem TV.ren_tr (f : Nat → Nat) (x : TV Γ) : x.ren f = x.tr f (Pv.ren f) := by
 cases x with
 | cell x => simp [TV.ren, TV.tr, tr_ren]
 | agg l => simp only [TV.ren, TV.tr, renL_map, Ev.ren_tr]
theorem renT_map (f : Nat → Nat) (l : List (TV Γ)) : renT f l = l.map (TV.ren f) := by
 induction l with
 | nil => rfl
 | cons x r ih => simp [renT, ih]
theorem AV.ren_tr (f : Nat → Nat) (x : AV Γ) : x.ren f = x.tr f (Pv.ren f) := by
 cases x with
 | t x => simp [AV.ren, AV.tr, TV.ren_tr]
 | tup l =>
  simp only [AV.ren, AV.tr, renT_map]
  congr 1
  exact List.map_congr_left fun x _ => TV.ren_tr f x
end
section
variable {T : Tab} {P : Program} {E E' : Env} {B B' : Pv → Nat → Prop} {w w' : World}
theorem BlkOk.ren (hT : TabOk T P) {f : Nat → Nat} {s s' : Nat} {b : Blk T.Γ} (hs : E'.ρ s' = E.ρ s ∧ E'.σ s' = E.σ s ∧ E'.φ s' = E.φ s)
  (hx : ∀ x : CV T.Γ, (∀ t ∈ x.sites, t ∈ b.sites) → Tr E B w E' B' w f (Pv.ren f) x) (h : BlkOk T E B w s b) : BlkOk T E' B' w s' (b.ren f) := by
 have cellT : ∀ {q : Bool} {e : TypeId} {x : (T.Γ.el e).ty} {j : Nat} {cv : CV T.Γ} {y : Value}, (cellsQ T (pvOf q) e x)[j]? = some cv → Conc T E B w cv y → Conc T E' B' w cv y := by
  intro q e x j cv y hj hc
  have hr : cv.tr f (Pv.ren f) = cv ∧ cv.sites = [] := by
   rcases cell_form hT.stable (List.mem_of_getElem? hj) with ⟨v, rfl⟩ | ⟨e', l', rfl⟩
   ·exact ⟨rfl, rfl⟩
   ·cases q <;> exact ⟨rfl, rfl⟩
  have := hc.tr hT.stable (hx cv (fun t ht => by rw [hr.2] at ht; cases ht))
  rwa [hr.1] at this
 cases h with
 | box t cs g vs hg hf hh h =>
  refine .box t _ g vs (hs.1.trans hg) (by rw [hs.2.2]; exact hf) hh ?_
  rw [renL_map, ren_tr]
  exact h.tr hT.stable (fun x hxl => hx x (fun t ht => sitesL_mem hxl ht))
 | row q e l g cap vs hg hf hh hsv hcap hv h =>
  refine .row q e l g cap vs (hs.1.trans hg) (by rw [hs.2.2]; exact hf) hh (hs.2.1.trans hsv) hcap hv (fun i hi j cv hj => ?_)
  obtain ⟨y, hy, hz⟩ := h i hi j cv hj
  exact ⟨y, hy, cellT hj hz⟩
 | nil q e hf hsv => exact .nil q e (by rw [hs.2.2]; exact hf) (hs.2.1.trans hsv)
 | cold q e l h =>
  refine .cold q e l ?_
  rw [hs.2.1]
  have hr : (CV.sl (Γ := T.Γ) (pvOf q) e l).tr f (Pv.ren f) = .sl (pvOf q) e l := by cases q <;> rfl
  have := h.tr hT.stable (hx (.sl (pvOf q) e l) (fun t ht => by cases q <;> cases ht))
  rwa [hr] at this
 | obj κ x h =>
  refine .obj κ x ?_
  rw [hs.2.1, hs.2.2]
  exact h
theorem hot_ren {Γ : Sig} (f : Nat → Nat) (b : Blk Γ) : (b.ren f).hot = b.hot := by cases b <;> rfl
def Env.by (E : Env) (acc : List Nat) : Env := ⟨fun i => E.ρ (acc.getD i 0), fun i => E.σ (acc.getD i 0), fun i => E.φ (acc.getD i 0), 0⟩
theorem lend_some {m : Mem T.Γ} {f : Nat → Nat} {acc : List Nat} {i : Nat} {b : Blk T.Γ} (h : (lend m f 0 acc).get i = some b) : ∃ s b0, acc[i]? = some s ∧ m.get s = some b0 ∧ b = b0.ren f := by
 rw [lend_get, if_pos (Nat.zero_le _), Nat.sub_zero] at h
 cases hs : acc[i]? with
 | none => rw [hs] at h; cases h
 | some s =>
  rw [hs] at h
  cases hb : m.get s with
  | none => simp [hb] at h
  | some b0 => simp [hb] at h; exact ⟨s, b0, rfl, hb, h.symm⟩
theorem getD_of {acc : List Nat} {i s : Nat} (h : acc[i]? = some s) : acc.getD i 0 = s := by
 rw [List.getD_eq_getElem?_getD, h]; rfl
theorem lend_ownBy {m : Mem T.Γ} {f : Nat → Nat} {acc : List Nat} {i g : Nat} (h : OwnBy (E.by acc) (lend m f 0 acc) i g) : ∃ s, acc[i]? = some s ∧ OwnBy E m s g := by
 obtain ⟨b, hb, hh, hφ⟩ := h
 obtain ⟨s, b0, hs, hm, rfl⟩ := lend_some hb
 rw [hot_ren] at hh
 have : (E.by acc).φ i = E.φ s := by simp only [Env.by, getD_of hs]
 rw [this] at hφ
 exact ⟨s, hs, b0, hm, hh, hφ⟩
theorem ownBy_lend {m : Mem T.Γ} {f : Nat → Nat} {acc : List Nat} {s g : Nat} (hs : s ∈ acc) (h : OwnBy E m s g) : OwnBy (E.by acc) (lend m f 0 acc) (idx acc s) g := by
 obtain ⟨b, hb, hh, hφ⟩ := h
 refine ⟨b.ren f, ?_, by rw [hot_ren]; exact hh, ?_⟩
 ·rw [lend_get, if_pos (Nat.zero_le _), Nat.sub_zero, idx_at acc s hs]
  simp [hb]
 ·show E.φ (acc.getD (idx acc s) 0) g
  rw [idx_getD hs]
  exact hφ
theorem tr_by {N F : Nat → Prop} {m : Mem T.Γ} {acc : List Nat} {x : CV T.Γ} (hx : ∀ s ∈ x.sites, s ∈ acc) :
  Tr E (Stb N F E m w) w (E.by acc) (Stb N F (E.by acc) (lend m (idx acc) 0 acc) w) w (idx acc) (Pv.ren (idx acc)) x := by
 have hno : ∀ g, ¬ Own E m g → ¬ Own (E.by acc) (lend m (idx acc) 0 acc) g := fun g h ⟨i, hi⟩ => by
  obtain ⟨s, _, ho⟩ := lend_ownBy hi
  exact h ⟨s, ho⟩
 refine ⟨fun s hs => ?_, fun p hp g hg => ⟨?_, fun o u hu => hu⟩⟩
 ·have := idx_getD (hx s (names_sites hs))
  simp only [Env.by, this, and_self]
 ·cases p with
  | near => exact ⟨hg.1, hno g hg.2.1, hg.2.2⟩
  | far => exact ⟨hg.1, hno g hg.2.1, hg.2.2⟩
  | of s =>
   refine ⟨hg.1, ?_⟩
   rcases hg.2 with h | h
   ·exact .inl ⟨hno g h.1, h.2⟩
   ·exact .inr (ownBy_lend (hx s (views_sites (pv_views (.inl hp)))) h)
  | mix s =>
   refine ⟨hg.1, ?_⟩
   rcases hg.2 with h | h
   ·exact .inl ⟨hno g h.1, h.2⟩
   ·exact .inr (ownBy_lend (hx s (views_sites (pv_views (.inr hp)))) h)
theorem lend_mem (hT : TabOk T P) {N F : Nat → Prop} {m : Mem T.Γ} {acc : List Nat} (hd : acc.Nodup) (hcl : ∀ s ∈ acc, ∀ b, m.get s = some b → ∀ t ∈ b.sites, t ∈ acc) (h : MemOk T E (Stb N F E m w) w m) :
  MemOk T (E.by acc) (Stb N F (E.by acc) (lend m (idx acc) 0 acc) w) w (lend m (idx acc) 0 acc) := by
 refine ⟨fun i b hb => ?_, fun i j g h1 h2 => ?_⟩
 ·obtain ⟨s, b0, hs, hm, rfl⟩ := lend_some hb
  refine (h.blk s b0 hm).ren hT ?_ (fun x hx => tr_by (fun t ht => hcl s (List.mem_of_getElem? hs) b0 hm t (hx t ht)))
  simp only [Env.by, getD_of hs, and_self]
 ·obtain ⟨s, hs, ho⟩ := lend_ownBy h1
  obtain ⟨t, ht, ho2⟩ := lend_ownBy h2
  have := h.apart s t g ho ho2
  subst this
  have l1 := (List.getElem?_eq_some_iff.mp hs).1
  have l2 := (List.getElem?_eq_some_iff.mp ht).1
  exact (List.getElem_inj hd).mp ((List.getElem?_eq_some_iff.mp hs).2.trans (List.getElem?_eq_some_iff.mp ht).2.symm)
end
end Go.Proofs.YtbbpcbjgekencaaGreatDoor.Ev
end
section
set_option linter.unusedVariables false
set_option linter.unusedSimpArgs false
set_option linter.unusedVariables false
namespace Go.Proofs.YtbbpcbjgekencaaGreatDoor.Ev
open Go Go.RowKit
section
variable {T : Tab} {P : Program} {W : World} {O A : Nat → Prop} {E0 : Env}
theorem keepL_get {Γ : Sig} (m : Mem Γ) (pins : Nat) (ts : List Nat) : ∀ (l : List (Option (AV Γ))) (i t : Nat) v, (keepL m pins ts i l)[t]? = some (some v) → l[t]? = some (some v) := by
 intro l
 induction l with
 | nil => intro i t v h; simp [keepL] at h
 | cons x r ih =>
  intro i t v h
  cases x with
  | none =>
   simp only [keepL] at h
   cases t with
   | zero => simp at h
   | succ t => simp only [List.getElem?_cons_succ] at h ⊢; exact ih _ t v h
  | some u =>
   simp only [keepL] at h
   cases t with
   | zero =>
    simp only [List.getElem?_cons_zero, Option.some.injEq] at h ⊢
    split at h
    ·exact Option.some.inj h
    ·cases h
   | succ t => simp only [List.getElem?_cons_succ] at h ⊢; exact ih _ t v h
theorem keepL_length {Γ : Sig} (m : Mem Γ) (pins : Nat) (ts : List Nat) : ∀ (l : List (Option (AV Γ))) (i : Nat), (keepL m pins ts i l).length = l.length := by
 intro l
 induction l with
 | nil => intro i; rfl
 | cons x r ih => intro i; cases x <;> simp [keepL, ih]
theorem rootsOf_mem {Γ : Sig} : ∀ (l : List (Option (AV Γ))) (t : Nat) v, l[t]? = some (some v) → ∀ s ∈ v.sites, s ∈ rootsOf l := by
 intro l
 induction l with
 | nil => intro t v h; simp at h
 | cons x r ih =>
  intro t v h s hs
  cases t with
  | zero => simp only [List.getElem?_cons_zero, Option.some.injEq] at h; subst h; simp only [rootsOf, List.mem_append]; exact .inl hs
  | succ t =>
   have := ih t v (by simpa using h) s hs
   cases x with
   | none => exact this
   | some u => simp only [rootsOf, List.mem_append]; exact .inr this
theorem renO_get {Γ : Sig} (f : Nat → Nat) : ∀ (l : List (Option (AV Γ))) (t : Nat), (renO f l)[t]? = (l[t]?).map (Option.map (AV.ren f)) := by
 intro l
 induction l with
 | nil => intro t; simp [renO]
 | cons x r ih =>
  intro t
  cases x <;> cases t <;> simp [renO, ih]
theorem renO_length {Γ : Sig} (f : Nat → Nat) : ∀ (l : List (Option (AV Γ))), (renO f l).length = l.length := by
 intro l
 induction l with
 | nil => rfl
 | cons x r ih => cases x <;> simp [renO, ih]
theorem pinSites_mem {Γ : Sig} (m : Mem Γ) : ∀ (l : List Nat) s b, s ∈ l → m.get s = some b → ∀ t ∈ b.sites, t ∈ pinSites m l := by
 intro l
 induction l with
 | nil => intro s b h; cases h
 | cons q r ih =>
  intro s b h hb t ht
  simp only [pinSites]
  cases h with
  | head => rw [hb]; exact List.mem_append_left _ ht
  | tail _ h =>
   cases hq : m.get q with
   | none => exact ih s b h hb t ht
   | some b0 => exact List.mem_append_right _ (ih s b h hb t ht)
theorem reachFrom_spec {Γ : Sig} {m : Mem Γ} {pins : Nat} {roots acc : List Nat} (h : reachFrom m pins roots = some acc) :
  acc.Nodup ∧ List.range pins <+: acc ∧ (∀ s ∈ roots, s ∈ acc) ∧ (∀ s ∈ acc, ∀ b, m.get s = some b → ∀ t ∈ b.sites, t ∈ acc) ∧ ∀ s ∈ acc, s < pins ∨ ∃ b, m.get s = some b := by
 unfold reachFrom at h
 split at h
 ·rename_i acc' hr
  split at h
  ·rename_i hk
   simp only [Option.some.injEq] at h
   subst h
   obtain ⟨h1, h2, h3, h4⟩ := reach_spec m 1000 _ _ _ hr List.nodup_range
   exact ⟨h1, h2, fun s hs => h3 s (List.mem_append_right _ hs), h4 (fun s hs b hb t ht => .inr (List.mem_append_left _ (pinSites_mem m _ s b hs hb t ht))), allKnown_spec hk⟩
  ·cases h
 ·cases h
theorem lend_own {E : Env} {m : Mem T.Γ} {f : Nat → Nat} {acc : List Nat} {g : Nat} (h : Own (E.by acc) (lend m f 0 acc) g) : Own E m g := by
 obtain ⟨i, hi⟩ := h
 obtain ⟨s, _, ho⟩ := lend_ownBy hi
 exact ⟨s, ho⟩
theorem canon_rel (hT : TabOk T P) {ts : List Nat} {st st' : St T.Γ} {E : Env} {a : Act} {w : World} (h : canon ts st = some st') (hR : Rel T W O A E0 E st a w) : ∃ E', Rel T W O A E0 E' st' a w := by
 unfold canon at h
 split at h
 ·rename_i acc hacc
  simp only [Option.some.injEq] at h
  subst h
  obtain ⟨hd, hpre, hroots, hcl, hkn⟩ := reachFrom_spec hacc
  refine ⟨E.by acc, hR.defers, ?_, fun t v hv => ?_, lend_mem hT hd hcl hR.mem, fun g hg => hR.mine g (lend_own hg), hR.kept, fun x hx => ⟨fun ho => (hR.glob x hx).1 (lend_own ho), (hR.glob x hx).2⟩, hR.pin.1, fun i hi => ?_⟩
  ·rw [hR.size, renO_length, keepL_length]
  ·rw [renO_get] at hv
   cases hq : (keepL st.mem st.pins ts 0 st.tmps)[t]? with
   | none => rw [hq] at hv; cases hv
   | some o =>
    rw [hq] at hv
    cases o with
    | none => simp at hv
    | some u =>
     simp only [Option.map_some, Option.some.injEq] at hv
     subst hv
     obtain ⟨x, hx, hc⟩ := hR.tmps t u (keepL_get _ _ _ _ _ _ _ hq)
     refine ⟨x, hx, ?_⟩
     rw [AV.ren_tr]
     exact hc.tr hT.stable (fun c hcs => tr_by (fun s hs => hroots s (rootsOf_mem _ t u hq s (AV.sites_mem hcs hs))))
  ·have hs : acc[i]? = some i := by
    obtain ⟨r, rfl⟩ := hpre
    rw [List.getElem?_append_left (by rw [← hR.pin.1] at hi; simpa using hi), List.getElem?_range (by rw [hR.pin.1]; exact hi)]
   have e := getD_of hs
   have := hR.pin.2 i hi
   simp only [Env.by, e]
   exact this
 ·cases h
def Good (T : Tab) (W : World) (O A : Nat → Prop) (E0 : Env) {ω : Type} (K : St T.Γ → Option ω) (r : ω) (Q : Act → World → Prop) : Prop :=
 ∀ st E a w, K st = some r → Rel T W O A E0 E st a w → Q a w
def RegOk (T : Tab) (P : Program) (S : FuncId → Option (FnS T.Γ)) : Prop :=
 ∀ (W : World) (O A : Nat → Prop) (E0 : Env) (k : Nat) (id : Nat) (ops : Array Oper) (draw : Bool) (st : St T.Γ) (ω : Type) (K : St T.Γ → Option ω) (r : ω) (E : Env) (a : Act) (w : World) (Q : Exit → Act → World → Prop),
  evalReg T P S k ops draw st K = some r → Rel T W O A E0 E st a w → Good T W O A E0 K r (Q .normal) → (Code.region id ops draw).wp P Q a w
def Loc (fn : Func) (n : Nat) (c : Code) (fs : List Fr) : Prop := ∀ t, n ≤ t → t < n + csize c → cutOf fn t = findCut t n c fs
inductive FrLoc (fn : Func) : List Fr → Prop
 | nil : FrLoc fn []
 | seq (n m b fs) (h : FrLoc fn fs) (h1 : cutOf fn n = some (m, b, fs)) (h2 : Loc fn m b fs) : FrLoc fn (.seq n m b :: fs)
 | block (id fs) (h : FrLoc fn fs) : FrLoc fn (.block id :: fs)
 | loop (n b fs) (h : FrLoc fn fs) (h1 : cutOf fn n = some (n + 1, b, .loop n b :: fs)) (h2 : Loc fn (n + 1) b (.loop n b :: fs)) : FrLoc fn (.loop n b :: fs)
theorem FrLoc.unwind {fn : Func} {id : Nat} {fs fs' : List Fr} (h : FrLoc fn fs) : Ev.unwind id fs = some fs' → FrLoc fn fs' := by
 induction h with
 | nil => intro hu; cases hu
 | seq n m b fs h h1 h2 ih => exact ih
 | block id' fs h ih =>
  intro hu
  simp only [Ev.unwind] at hu
  split at hu
  ·simp only [Option.some.injEq] at hu; subst hu; exact h
  ·exact ih hu
 | loop n b fs h h1 h2 ih => exact ih
theorem Loc.seq {fn : Func} {n : Nat} {a b : Code} {fs : List Fr} (h : Loc fn n (.seq a b) fs) : Loc fn (n + 1) a (.seq n (n + 1 + csize a) b :: fs) ∧ cutOf fn n = some (n + 1 + csize a, b, fs) ∧ Loc fn (n + 1 + csize a) b fs := by
 refine ⟨fun t h1 h2 => ?_, ?_, fun t h1 h2 => ?_⟩
 ·rw [h t (by omega) (by simp only [csize]; omega)]
  simp only [findCut]
  have e1 : (t == n) = false := by simp; omega
  have e2 : t.blt (n + 1 + csize a) = true := by simp [Nat.blt]; omega
  rw [e1, e2]
 ·rw [h n (Nat.le_refl _) (by simp only [csize]; omega)]
  simp only [findCut]
  have e1 : (n == n) = true := by simp
  rw [e1]
 ·rw [h t (by omega) (by simp only [csize]; omega)]
  simp only [findCut]
  have e1 : (t == n) = false := by simp; omega
  have e2 : t.blt (n + 1 + csize a) = false := by
   cases hb : t.blt (n + 1 + csize a) with
   | false => rfl
   | true => simp [Nat.blt] at hb; omega
  rw [e1, e2]
theorem Loc.cond {fn : Func} {n : Nat} {c : Operand} {a b : Code} {fs : List Fr} (h : Loc fn n (.cond c a b) fs) : Loc fn n a fs ∧ Loc fn (n + csize a) b fs := by
 refine ⟨fun t h1 h2 => ?_, fun t h1 h2 => ?_⟩
 ·rw [h t h1 (by simp only [csize]; omega)]
  simp only [findCut]
  have e2 : t.blt (n + csize a) = true := by simp [Nat.blt]; omega
  rw [e2]
 ·rw [h t (by omega) (by simp only [csize]; omega)]
  simp only [findCut]
  have e2 : t.blt (n + csize a) = false := by
   cases hb : t.blt (n + csize a) with
   | false => rfl
   | true => simp [Nat.blt] at hb; omega
  rw [e2]
theorem Loc.block {fn : Func} {n id : Nat} {b : Code} {fs : List Fr} (h : Loc fn n (.block id b) fs) : Loc fn n b (.block id :: fs) := fun t h1 h2 => by
 rw [h t h1 h2]
 rfl
theorem Loc.loop {fn : Func} {n : Nat} {b : Code} {fs : List Fr} (h : Loc fn n (.loop b) fs) : cutOf fn n = some (n + 1, b, .loop n b :: fs) ∧ Loc fn (n + 1) b (.loop n b :: fs) := by
 refine ⟨?_, fun t h1 h2 => ?_⟩
 ·rw [h n (Nat.le_refl _) (by simp only [csize]; omega)]
  simp only [findCut]
  have e1 : (n == n) = true := by simp
  rw [e1]
 ·rw [h t (by omega) (by simp only [csize]; omega)]
  simp only [findCut]
  have e1 : (t == n) = false := by simp; omega
  rw [e1]
section
variable {ω : Type} (fin : St T.Γ → Option ω) (L : Nat → Nat → Cut → St T.Γ → Option ω) (fn : Func)
inductive FrOk (W : World) (O A : Nat → Prop) (E0 : Env) (r : ω) (k : Nat) : List Fr → (Exit → Act → World → Prop) → Prop
 | nil (Q) (h1 : Good T W O A E0 fin r (Q .normal)) (h2 : Good T W O A E0 fin r (Q .ret)) : FrOk W O A E0 r k [] Q
 | seq (n m b fs Q' Q) (h : FrOk W O A E0 r k fs Q') (h1 : ∀ a w, b.wp P Q' a w → Q .normal a w) (h2 : ∀ e a w, e ≠ .normal → Q' e a w → Q e a w) : FrOk W O A E0 r k (.seq n m b :: fs) Q
 | block (id fs Q' Q) (h : FrOk W O A E0 r k fs Q') (h1 : ∀ a w, Q' .normal a w → Q .normal a w) (h2 : ∀ a w, Q' .normal a w → Q (.exit id) a w) (h3 : ∀ e a w, e ≠ .normal → e ≠ .exit id → Q' e a w → Q e a w) :
   FrOk W O A E0 r k (.block id :: fs) Q
 | loop (n b fs Q' Q) (h : FrOk W O A E0 r k fs Q')
   (h1 : ∀ j ≤ k, ∀ st E a w, L j n (n + 1, b, .loop n b :: fs) st = some r → Rel T W O A E0 E st a w → Q .normal a w) (h2 : ∀ e a w, e ≠ .normal → Q' e a w → Q e a w) : FrOk W O A E0 r k (.loop n b :: fs) Q
theorem FrOk.mono {r : ω} {k j : Nat} {fs : List Fr} {Q : Exit → Act → World → Prop} (hj : j ≤ k) (h : FrOk (P := P) fin L W O A E0 r k fs Q) : FrOk (P := P) fin L W O A E0 r j fs Q := by
 induction h with
 | nil Q h1 h2 => exact .nil Q h1 h2
 | seq n m b fs Q' Q h h1 h2 ih => exact .seq n m b fs Q' Q ih h1 h2
 | block id fs Q' Q h h1 h2 h3 ih => exact .block id fs Q' Q ih h1 h2 h3
 | loop n b fs Q' Q h h1 h2 ih => exact .loop n b fs Q' Q ih (fun i hi => h1 i (Nat.le_trans hi hj)) h2
theorem FrOk.ret {r : ω} {k : Nat} {fs : List Fr} {Q : Exit → Act → World → Prop} (h : FrOk (P := P) fin L W O A E0 r k fs Q) : Good T W O A E0 fin r (Q .ret) := by
 induction h with
 | nil Q h1 h2 => exact h2
 | seq n m b fs Q' Q h h1 h2 ih => exact fun st E a w hf hR => h2 _ a w (by simp) (ih st E a w hf hR)
 | block id fs Q' Q h h1 h2 h3 ih => exact fun st E a w hf hR => h3 _ a w (by simp) (by simp) (ih st E a w hf hR)
 | loop n b fs Q' Q h h1 h2 ih => exact fun st E a w hf hR => h2 _ a w (by simp) (ih st E a w hf hR)
theorem FrOk.exit {r : ω} {k id : Nat} {fs fs' : List Fr} {Q : Exit → Act → World → Prop} (h : FrOk (P := P) fin L W O A E0 r k fs Q) : unwind id fs = some fs' → ∃ Q', FrOk (P := P) fin L W O A E0 r k fs' Q' ∧ ∀ a w, Q' .normal a w → Q (.exit id) a w := by
 induction h with
 | nil Q h1 h2 => intro hu; cases hu
 | seq n m b fs Q' Q h h1 h2 ih =>
  intro hu
  obtain ⟨Q2, h3, h4⟩ := ih hu
  exact ⟨Q2, h3, fun a w hq => h2 _ a w (by simp) (h4 a w hq)⟩
 | block id' fs Q' Q h h1 h2 h3 ih =>
  intro hu
  simp only [unwind] at hu
  split at hu
  ·rename_i he
   simp only [Option.some.injEq] at hu
   subst hu
   have := beq_iff_eq.mp he
   subst this
   exact ⟨Q', h, h2⟩
  ·rename_i he
   obtain ⟨Q2, h4, h5⟩ := ih hu
   exact ⟨Q2, h4, fun a w hq => h3 _ a w (by simp) (by simp at he ⊢; exact fun e => he e.symm) (h5 a w hq)⟩
 | loop n b fs Q' Q h h1 h2 ih =>
  intro hu
  obtain ⟨Q2, h3, h4⟩ := ih hu
  exact ⟨Q2, h3, fun a w hq => h2 _ a w (by simp) (h4 a w hq)⟩
structure CutsOk (P : Program) (W : World) (O A : Nat → Prop) (E0 : Env) (k : Nat) : Prop where
 join : ∀ (r : ω) n m b fs st E a w Q, cutOf fn n = some (m, b, fs) → Loc fn m b fs → FrLoc fn fs → L k n (m, b, fs) st = some r → Rel T W O A E0 E st a w → FrOk (P := P) fin L W O A E0 r k fs Q → b.wp P Q a w
 loop : ∀ (r : ω) n b fs st E a w Q, cutOf fn n = some (n + 1, b, .loop n b :: fs) → Loc fn (n + 1) b (.loop n b :: fs) → FrLoc fn fs → L k n (n + 1, b, .loop n b :: fs) st = some r → Rel T W O A E0 E st a w → FrOk (P := P) fin L W O A E0 r k fs Q → (Code.loop b).wp P Q a w
theorem popF_sound (hT : TabOk T P) {lv : List (Nat × List Nat)} {k : Nat} (hC : CutsOk fin L fn P W O A E0 k) {ex : Nat → Code → List Fr → St T.Γ → Option ω}
  (hex : ∀ (r : ω) n c fs st E a w Q, Loc fn n c fs → FrLoc fn fs → ex n c fs st = some r → Rel T W O A E0 E st a w → FrOk (P := P) fin L W O A E0 r k fs Q → c.wp P Q a w) {r : ω} :
  ∀ (fs : List Fr) (st : St T.Γ) (E : Env) (a : Act) (w : World) (Q : Exit → Act → World → Prop), FrLoc fn fs → popF T lv fin (L k) ex fs st = some r → Rel T W O A E0 E st a w → FrOk (P := P) fin L W O A E0 r k fs Q → Q .normal a w := by
 intro fs
 induction fs with
 | nil =>
  intro st E a w Q _ h hR hF
  cases hF with
  | nil Q h1 h2 => exact h1 st E a w h hR
 | cons f fs ih =>
  intro st E a w Q hl h hR hF
  cases hF with
  | seq n m b fs Q' Q hF h1 h2 =>
   cases hl with
   | seq _ _ _ _ hl hc1 hc2 =>
   simp only [popF] at h
   split at h
   ·unfold cutAt at h
    split at h
    ·rename_i st2 hc
     obtain ⟨E', hR'⟩ := canon_rel hT hc hR
     exact h1 a w (hC.join r n m b fs st2 E' a w Q' hc1 hc2 hl h hR' hF)
    ·cases h
   ·exact h1 a w (hex r m b fs st E a w Q' hc2 hl h hR hF)
  | block id fs Q' Q hF h1 h2 h3 =>
   cases hl with
   | block _ _ hl => exact h1 a w (ih st E a w Q' hl h hR hF)
  | loop n b fs Q' Q hF h1 h2 =>
   simp only [popF] at h
   split at h
   ·unfold cutAt at h
    split at h
    ·rename_i st2 hc
     obtain ⟨E', hR'⟩ := canon_rel hT hc hR
     exact h1 k (Nat.le_refl _) st2 E' a w h hR'
    ·cases h
   ·cases h
theorem eval_cell {st : St T.Γ} {E : Env} {a : Act} {w : World} {c : Operand} {v : Value} (hR : Rel T W O A E0 E st a w) (h : st.eval c = some (.t (.cell (.c v)))) : a.eval c = v := by
 cases c with
 | tmp t =>
  have h1 : (st.tmps[t]?).join = some (AV.t (TV.cell (CV.c v))) := h
  obtain ⟨o, ho⟩ : ∃ o, st.tmps[t]? = some o := by
   cases hq : st.tmps[t]? with
   | none => rw [hq] at h1; cases h1
   | some o => exact ⟨o, rfl⟩
  rw [ho] at h1
  cases o with
  | none => cases h1
  | some u =>
   obtain rfl : u = AV.t (TV.cell (CV.c v)) := by simpa using h1
   obtain ⟨x, hx, hc⟩ := hR.tmps t _ ho
   cases hc with
   | t hc =>
    cases hc with
    | cell hc =>
     cases hc
     show a.tmps.getD t undef = _
     rw [Array.getD_eq_getD_getElem?, hx]
     rfl
 | const u =>
  have h1 : ofValue u = some (AV.t (TV.cell (CV.c v))) := h
  show u = v
  unfold ofValue at h1
  split at h1
  ·rename_i cs
   cases hq : ofCells (Γ := T.Γ) cs.toList <;> rw [hq] at h1 <;> simp at h1
  ·split at h1
   ·simpa using h1
   ·cases h1
 | global g =>
  have h1 : some (AV.t (TV.cell (CV.c (Value.pointer (some ⟨g, 0, none⟩))))) = some (AV.t (TV.cell (CV.c v))) := h
  show Value.pointer (some ⟨g, 0, none⟩) = v
  simpa using h1
 | func f =>
  have h1 : some (AV.t (TV.cell (CV.c (Value.func (.func f) #[] #[])))) = some (AV.t (TV.cell (CV.c v))) := h
  show Value.func (.func f) #[] #[] = v
  simpa using h1
theorem force_eq {Γ : Sig} {ω : Type} (st : St Γ) (K : St Γ → Option ω) : st.force K = K st := by
 have h1 : ∀ {ω : Type} (l : List (Option (AV Γ))) (K : List (Option (AV Γ)) → Option ω), forceT l K = K l := by
  intro ω l
  induction l with
  | nil => intro K; rfl
  | cons x r ih => intro K; cases x <;> simp [forceT, ih]
 have h2 : ∀ {ω : Type} (l : Mem Γ) (K : Mem Γ → Option ω), forceM l K = K l := by
  intro ω l
  induction l with
  | nil => intro K; rfl
  | cons x r ih => intro K; obtain ⟨s, b⟩ := x; simp [forceM, ih]
 unfold St.force
 rw [h1, h2]
theorem exec_sound (hT : TabOk T P) {S : FuncId → Option (FnS T.Γ)} (hReg : RegOk T P S) {lv : List (Nat × List Nat)} {k : Nat} (hC : CutsOk fin L fn P W O A E0 k) : ∀ (f : Nat) (r : ω) n c fs st E a w Q,
  Loc fn n c fs → FrLoc fn fs → exec T P S lv fin k (L k) f n c fs st = some r → Rel T W O A E0 E st a w → FrOk (P := P) fin L W O A E0 r k fs Q → c.wp P Q a w := by
 intro f
 induction f with
 | zero => intro r n c fs st E a w Q _ _ h; cases h
 | succ f ih =>
  intro r n c fs st E a w Q hl hfl h hR hF
  have pop := fun {r : ω} => popF_sound fin L fn hT (lv := lv) hC (r := r) (fun r n c fs st E a w Q => ih r n c fs st E a w Q)
  cases c with
  | skip => simp only [exec] at h; exact wp_skip (pop fs st E a w Q hfl h hR hF)
  | label l => simp only [exec] at h; exact wp_label (pop fs st E a w Q hfl h hR hF)
  | region id ops draw =>
   simp only [exec] at h
   exact hReg W O A E0 k id ops draw st ω _ r E a w Q h hR (fun st' E' a' w' h' hR' => pop fs st' E' a' w' Q hfl (by rw [force_eq] at h'; exact h') hR' hF)
  | seq x y =>
   simp only [exec] at h
   obtain ⟨l1, l2, l3⟩ := hl.seq
   refine wp_seq (ih r _ x _ st E a w _ l1 (.seq _ _ _ _ hfl l2 l3) h hR (.seq n _ y fs Q _ hF (fun a w hw => hw) (fun e a w he hq => ?_)))
   cases e with
   | normal => exact absurd rfl he
   | _ => exact hq
  | cond c x y =>
   simp only [exec] at h
   obtain ⟨l1, l2⟩ := hl.cond
   split at h
   ·rename_i t ht
    refine wp_cond (eval_cell hR ht) ?_
    unfold br at h
    split at h
    ·rename_i ht'; rw [if_pos ht']; exact ih r _ x fs st E a w Q l1 hfl h hR hF
    ·rename_i ht'; rw [if_neg ht']; exact ih r _ y fs st E a w Q l2 hfl h hR hF
   ·cases h
  | block id b =>
   simp only [exec] at h
   refine wp_block (ih r n b _ st E a w _ hl.block (.block _ _ hfl) h hR (.block id fs Q _ hF (fun a w hq => hq) (fun a w hq => ?_) (fun e a w h1 h2 hq => ?_)))
   ·simp only [Exit.inBlock, if_true]; exact hq
   ·cases e with
    | normal => exact absurd rfl h1
    | exit id' => simp only [Exit.inBlock]; rw [if_neg (fun e => h2 (by rw [e]))]; exact hq
    | _ => exact hq
  | loop b =>
   simp only [exec] at h
   split at h
   ·unfold cutAt at h
    split at h
    ·rename_i st2 hc
     obtain ⟨E', hR'⟩ := canon_rel hT hc hR
     exact hC.loop r n b fs st2 E' a w Q hl.loop.1 hl.loop.2 hfl h hR' hF
    ·cases h
   ·cases h
  | exit id =>
   simp only [exec] at h
   split at h
   ·rename_i fs' hu
    obtain ⟨Q', hF', hQ⟩ := hF.exit fin L hu
    exact wp_exit (hQ a w (pop fs' st E a w Q' (hfl.unwind hu) h hR hF'))
   ·cases h
  | ret => simp only [exec] at h; exact wp_ret (hF.ret fin L st E a w h hR)
  | rangeFunc => simp [exec] at h
  | scope => simp [exec] at h
  | goto => simp [exec] at h
  | refuse => simp [exec] at h
theorem least {p : Nat → Prop} (h : ∃ n, p n) : ∃ n, p n ∧ ∀ m, p m → n ≤ m := by
 obtain ⟨n, hn⟩ := h
 induction n using Nat.strongRecOn with
 | _ n ih =>
  by_cases hx : ∃ m, m < n ∧ p m
  ·obtain ⟨m, hm, hp⟩ := hx
   exact ih m hm hp
  ·exact ⟨n, hn, fun m hm => by
    have : ¬ m < n := fun h => hx ⟨m, h, hm⟩
    omega⟩
noncomputable def leastOf (p : Nat → Prop) : Nat := open Classical in if h : ∃ n, p n then Classical.choose (least h) else 0
theorem leastOf_spec {p : Nat → Prop} (h : ∃ n, p n) : p (leastOf p) ∧ ∀ m, p m → leastOf p ≤ m := by
 unfold leastOf
 rw [dif_pos h]
 exact Classical.choose_spec (least h)
def LOk (P : Program) (S : FuncId → Option (FnS T.Γ)) (lv : List (Nat × List Nat)) (W : World) (O A : Nat → Prop) (E0 : Env) : Prop :=
 ∀ (k n : Nat) (x : Cut) (st : St T.Γ) (r : ω), cutOf fn n = some x → L k n x st = some r → ∃ k' st', k = k' + 1 ∧ (∀ E a w, Rel T W O A E0 E st a w → Rel T W O A E0 E st' a w) ∧ exec T P S lv fin k' (L k') 1000 x.1 x.2.1 x.2.2 st' = some r
theorem cuts_sound (hT : TabOk T P) {S : FuncId → Option (FnS T.Γ)} (hReg : RegOk T P S) {lv : List (Nat × List Nat)} (hL : LOk fin L fn P S lv W O A E0) : ∀ k, CutsOk fin L fn P W O A E0 k := by
 intro k
 induction k using Nat.strongRecOn with
 | _ k ih =>
  refine ⟨fun r n m b fs st E a w Q hc hl hfl h hR hF => ?_, fun r n b fs st E a w Q hc hl hfl h hR hF => ?_⟩
  ·obtain ⟨k', st', rfl, hw, hx⟩ := hL k n _ st r hc h
   exact exec_sound fin L fn hT hReg (ih k' (by omega)) 1000 r m b fs st' E a w Q hl hfl hx (hw E a w hR) (hF.mono fin L (by omega))
  ·let p : Act → World → Nat → Prop := fun a w j => j ≤ k ∧ ∃ st E, L j n (n + 1, b, .loop n b :: fs) st = some r ∧ Rel T W O A E0 E st a w
   refine wp_loop (fun a w => ∃ j, p a w j) (fun a w => leastOf (p a w)) ⟨k, Nat.le_refl k, st, E, h, hR⟩ ?_
   intro a w hI
   obtain ⟨⟨hn, st, E, h, hR⟩, hmin⟩ := leastOf_spec hI
   revert hn h hmin
   generalize hN : leastOf (p a w) = j
   intro hmin hn h
   obtain ⟨m, st', rfl, hw, hx⟩ := hL j n _ st r hc h
   refine exec_sound fin L fn hT hReg (ih m (by omega)) 1000 r _ b _ st' E a w _ hl (.loop _ _ _ hfl hc hl) hx (hw E a w hR) (.loop n b fs Q _ (hF.mono fin L (by omega)) (fun i hi st' E' a' w' h' hR' => ?_) (fun e a' w' he hq => ?_))
   ·have hp : p a' w' i := ⟨by omega, st', E', h', hR'⟩
    refine ⟨⟨i, hp⟩, ?_⟩
    have := (leastOf_spec ⟨i, hp⟩).2 i hp
    show leastOf (p a' w') < m + 1
    omega
   ·cases e with
    | normal => exact absurd rfl he
    | _ => exact hq
end
end
end Go.Proofs.YtbbpcbjgekencaaGreatDoor.Ev
end
section
set_option linter.unusedVariables false
set_option linter.unusedSimpArgs false
set_option linter.unusedVariables false
namespace Go.Proofs.YtbbpcbjgekencaaGreatDoor.Ev
open Go Go.RowKit
section
variable {T : Tab} {P : Program} {W : World} {O A : Nat → Prop} {E0 : Env} {E : Env} {B : Pv → Nat → Prop} {w : World}
theorem br_bind {ω υ : Type} (c : Prop) [Decidable c] (a b : Option ω) (f : ω → Option υ) : (br c a b).bind f = br c (a.bind f) (b.bind f) := by
 unfold br; split <;> rfl
theorem loadA_cps (t : TypeId) (m : Mem T.Γ) (x : CV T.Γ) {ω : Type} (K : AV T.Γ → Option ω) : loadA T t m x K = (loadA T t m x some).bind K := by
 unfold loadA
 repeat' (first | rfl | (rw [br_bind]; congr 1) | split)
theorem storeA_cps (m : Mem T.Γ) (x : CV T.Γ) (cs : List (CV T.Γ)) {ω : Type} (K : List (Nat × Option (Blk T.Γ)) → List Nat → Option ω) : storeA T m x cs K = (storeA T m x cs fun a b => some (a, b)).bind fun p => K p.1 p.2 := by
 unfold storeA
 repeat' (first | rfl | (rw [br_bind]; congr 1) | split)
theorem indexA_cps (m : Mem T.Γ) (elem : TypeId) (x : CV T.Γ) (i : Int) {ω : Type} (K : CV T.Γ → Option ω) : indexA T m elem x i K = (indexA T m elem x i some).bind K := by
 unfold indexA
 repeat' (first | rfl | (rw [br_bind]; congr 1) | split)
theorem sliceL_cps {e : TypeId} (q : Pv) (l : List (T.Γ.el e).ty) (lo hi : Option (Option (AV T.Γ))) {ω : Type} (K : CV T.Γ → Option ω) : sliceL T q l lo hi K = (sliceL T q l lo hi some).bind K := by
 unfold sliceL
 repeat' (first | rfl | (rw [br_bind]; congr 1) | split)
theorem sliceA_cps (m : Mem T.Γ) (elem : TypeId) (x : CV T.Γ) (lo hi : Option (Option (AV T.Γ))) {ω : Type} (K : CV T.Γ → Option ω) : sliceA T m elem x lo hi K = (sliceA T m elem x lo hi some).bind K := by
 unfold sliceA
 repeat' (first | rfl | exact sliceL_cps _ _ _ _ _ | (rw [br_bind]; congr 1) | split)
def CpsOk {Γ : Sig} (s : Spec Γ) : Prop := ∀ k xs m (ω : Type) (K : AV Γ → Mem Γ → Option ω), s k xs m ω K = (s k xs m (AV Γ × Mem Γ) fun v m => some (v, m)).bind fun p => K p.1 p.2
theorem callA_cps (f : FnS T.Γ) (hf : CpsOk f.spec) (k d : Nat) (vs : List (AV T.Γ)) (mem : Mem T.Γ) {ω : Type} (K : AV T.Γ → MC T.Γ → Option ω) :
  callA T f k d vs mem K = (callA T f k d vs mem fun v mc => some (v, mc)).bind fun p => K p.1 p.2 := by
 unfold callA
 split
 ·rfl
 ·split
  ·rfl
  ·rw [hf k _ _ ω, hf k _ _ (AV T.Γ × MC T.Γ)]
   cases f.spec k _ _ _ (fun v m => some (v, m)) with
   | none => rfl
   | some p =>
    simp only [Option.bind_some]
    split
    ·split <;> rfl
    ·rfl
theorem evalD_cps {S : FuncId → Option (FnS T.Γ)} (hS : ∀ f s, S f = some s → CpsOk s.spec) (k : Nat) (o : Oper) (ev : Operand → Option (AV T.Γ)) (mem : Mem T.Γ) {ω : Type} (K : AV T.Γ → MC T.Γ → Option ω) :
  evalD T P S k o ev mem K = (evalD T P S k o ev mem fun v mc => some (v, mc)).bind fun p => K p.1 p.2 := by
 have bb : ∀ {β γ δ : Type} (x : Option β) (f : β → Option γ) (g : γ → Option δ), (x.bind f).bind g = x.bind fun y => (f y).bind g := fun x f g => by cases x <;> rfl
 cases hop : o.op <;> simp only [evalD, hop]
 all_goals first
  | rfl
  | skip
 case load t a =>
  split
  ·rw [loadA_cps, loadA_cps (K := fun v => some (v, MC.no)), bb]; rfl
  ·rfl
 case store t a x =>
  split
  ·split
   ·rw [storeA_cps, storeA_cps (K := fun sets ws => some (AV.tup [], (⟨sets, [], ws⟩ : MC T.Γ))), bb]; rfl
   ·rfl
  ·rfl
 case indexAddr t x ix =>
  split
  ·rw [indexA_cps, indexA_cps (K := fun q => some (AV.t (TV.cell q), MC.no)), bb]; rfl
  ·rfl
 case slice t x lo hi mx =>
  cases mx with
  | some _ => rfl
  | none =>
   simp only
   split
   ·rw [sliceA_cps, sliceA_cps (K := fun q => some (AV.t (TV.cell q), (MC.no : MC T.Γ))), bb]; rfl
   ·repeat' (first | rfl | split)
   ·rfl
 case call c =>
  split
  ·split
   ·split
    ·rename_i s hs; exact callA_cps s (hS _ _ hs) _ _ _ _ _
    ·rfl
   ·rfl
  all_goals repeat' (first | rfl | (rw [br_bind]; congr 1) | split)
 case makeFunc fn first captured =>
  cases fn <;> simp only [evalD, hop] <;> repeat' (first | rfl | split)
 all_goals repeat' (first | rfl | (rw [br_bind]; congr 1) | split)
theorem pureRun_run {α : Type} (P : Program) : ∀ (s : Sem α) (a : α) (w : World), pureRun P s = some a → s.run P w = .ok a w := by
 intro s
 induction s with
 | pure b => intro a w h; simp only [pureRun, Option.some.injEq] at h; subst h; rfl
 | program k ih => intro a w h; simp only [pureRun] at h; exact ih P a w h
 | _ => intro a w h; simp [pureRun] at h
theorem ofCells_conc : ∀ (vs : List Value) (l : List (CV T.Γ)), ofCells vs = some l → ConcL T E B w l vs := by
 intro vs
 induction vs with
 | nil => intro l h; simp only [ofCells, Option.some.injEq] at h; subst h; exact ⟨rfl, fun j cv v h => by simp at h⟩
 | cons v r ih =>
  intro l h
  simp only [ofCells] at h
  split at h
  ·cases hq : ofCells (Γ := T.Γ) r with
   | none => rw [hq] at h; cases h
   | some l2 =>
    rw [hq] at h
    simp only [Option.map_some, Option.some.injEq] at h
    subst h
    have := ih l2 hq
    refine ⟨by simp [this.1], fun j cv u h1 h2 => ?_⟩
    cases j with
    | zero => simp only [List.getElem?_cons_zero, Option.some.injEq] at h1 h2; subst h1; subst h2; exact .c _
    | succ j => simp only [List.getElem?_cons_succ] at h1 h2; exact this.2 j cv u h1 h2
  ·cases h
theorem ofValue_conc (v : Value) (x : AV T.Γ) (h : ofValue v = some x) : ConcA T E B w x v := by
 unfold ofValue at h
 split at h
 ·rename_i cs
  cases hq : ofCells (Γ := T.Γ) cs.toList with
  | none => rw [hq] at h; cases h
  | some l =>
   rw [hq] at h
   simp only [Option.map_some, Option.some.injEq] at h
   subst h
   exact .t (.agg (ofCells_conc _ _ hq))
 ·split at h
  ·simp only [Option.some.injEq] at h; subst h; exact .t (.cell (.c _))
  ·cases h
abbrev SB (T : Tab) (W : World) (O A : Nat → Prop) (E : Env) (m : Mem T.Γ) (w : World) : Pv → Nat → Prop := Stb (fun g => W.heap.size ≤ g ∨ O g) A E m w
theorem eval_conc {st : St T.Γ} {a : Act} {x : Operand} {v : AV T.Γ} (hR : Rel T W O A E0 E st a w) (h : st.eval x = some v) : ConcA T E (SB T W O A E st.mem w) w v (a.eval x) := by
 cases x with
 | tmp t =>
  have h1 : (st.tmps[t]?).join = some v := h
  cases hq : st.tmps[t]? with
  | none => rw [hq] at h1; cases h1
  | some o =>
   rw [hq] at h1
   cases o with
   | none => cases h1
   | some u =>
    obtain rfl : u = v := by simpa using h1
    obtain ⟨x, hx, hc⟩ := hR.tmps t _ hq
    have : a.eval (.tmp t) = x := by
     show a.tmps.getD t undef = _
     rw [Array.getD_eq_getD_getElem?, hx]
     rfl
    rw [this]
    exact hc
 | const u => exact ofValue_conc u v h
 | global g =>
  have h1 : some (AV.t (TV.cell (CV.c (Value.pointer (some ⟨g, 0, none⟩))))) = some v := h
  simp only [Option.some.injEq] at h1
  subst h1
  exact .t (.cell (.c _))
 | func f =>
  have h1 : some (AV.t (TV.cell (CV.c (Value.func (.func f) #[] #[])))) = some v := h
  simp only [Option.some.injEq] at h1
  subst h1
  exact .t (.cell (.c _))
theorem toCells_conc : ∀ (l : List (CV T.Γ)) (us vs : List Value), toCells l = some us → ConcL T E B w l vs → vs = us := by
 intro l
 induction l with
 | nil => intro us vs h hc; simp only [toCells, Option.some.injEq] at h; subst h; exact List.eq_nil_of_length_eq_zero hc.1
 | cons x r ih =>
  intro us vs h hc
  cases x with
  | c v =>
   simp only [toCells] at h
   cases hq : toCells r with
   | none => rw [hq] at h; cases h
   | some u2 =>
    rw [hq] at h
    simp only [Option.map_some, Option.some.injEq] at h
    subst h
    cases vs with
    | nil => have := hc.1; simp at this
    | cons y ys =>
     have h0 := hc.2 0 (.c v) y rfl rfl
     cases h0
     rw [ih u2 ys hq ⟨by have := hc.1; simpa using this, fun j cv u h1 h2 => hc.2 (j + 1) cv u (by simpa using h1) (by simpa using h2)⟩]
  | _ => cases h
theorem toTV_conc (x : TV T.Γ) (u v : Value) (h : toTV x = some u) (hc : ConcT T E B w x v) : v = u := by
 cases x with
 | cell c =>
  cases c with
  | c y => simp only [toTV, Option.some.injEq] at h; subst h; cases hc with | cell hc => cases hc; rfl
  | _ => cases h
 | agg l =>
  simp only [toTV] at h
  cases hq : toCells l with
  | none => rw [hq] at h; cases h
  | some us =>
   rw [hq] at h
   simp only [Option.map_some, Option.some.injEq] at h
   subst h
   cases hc with
   | agg hc =>
    rename_i vs
    have := toCells_conc l us vs.toList hq hc
    rw [← this]
theorem toTVs_conc : ∀ (l : List (TV T.Γ)) (us : List Value) (vs : List Value), toTVs l = some us → vs.length = l.length → (∀ (j : Nat) x v, l[j]? = some x → vs[j]? = some v → ConcT T E B w x v) → vs = us := by
 intro l
 induction l with
 | nil => intro us vs h hl hc; simp only [toTVs, Option.some.injEq] at h; subst h; exact List.eq_nil_of_length_eq_zero hl
 | cons x r ih =>
  intro us vs h hl hc
  simp only [toTVs] at h
  cases hx : toTV x with
  | none => rw [hx] at h; cases h
  | some v =>
   rw [hx] at h
   cases hq : toTVs r with
   | none => rw [hq] at h; cases h
   | some u2 =>
    rw [hq] at h
    simp only [Option.map_some, Option.some.injEq] at h
    subst h
    cases vs with
    | nil => simp at hl
    | cons y ys =>
     have h0 := toTV_conc x v y hx (hc 0 x y rfl rfl)
     subst h0
     rw [ih u2 ys hq (by simpa using hl) (fun j x v h1 h2 => hc (j + 1) x v (by simpa using h1) (by simpa using h2))]
theorem toValue_conc (x : AV T.Γ) (u v : Value) (h : toValue x = some u) (hc : ConcA T E B w x v) : v = u := by
 cases x with
 | t x => cases hc with | t hc => exact toTV_conc x u v h hc
 | tup l =>
  simp only [toValue] at h
  cases hq : toTVs l with
  | none => rw [hq] at h; cases h
  | some us =>
   rw [hq] at h
   simp only [Option.map_some, Option.some.injEq] at h
   subst h
   cases hc with
   | tup hl hc =>
    rename_i vs
    have := toTVs_conc l us vs.toList hq (by simpa using hl) (fun j x v h1 h2 => hc j x v h1 (by simpa using h2))
    rw [← this]
theorem put_rel {st : St T.Γ} {a : Act} {d : Option Nat} {v : AV T.Γ} {x : Value} (hR : Rel T W O A E0 E st a w) (hc : ConcA T E (SB T W O A E st.mem w) w v x) : Rel T W O A E0 E (st.put d (some v)) (a.put d x) w := by
 cases d with
 | none => exact hR
 | some d =>
  refine ⟨hR.defers, ?_, ?_, hR.mem, hR.mine, hR.kept, hR.glob, hR.pin⟩
  ·show (a.tmps.setIfInBounds d x).size = (st.tmps.set d (some v)).length
   rw [Array.size_setIfInBounds, List.length_set]
   exact hR.size
  ·intro t u hu
   show ∃ y, (a.tmps.setIfInBounds d x)[t]? = some y ∧ _
   have hu : (st.tmps.set d (some v))[t]? = some (some u) := hu
   rw [List.getElem?_set] at hu
   rw [Array.getElem?_setIfInBounds]
   by_cases e : d = t
   ·subst e
    rw [if_pos rfl] at hu
    rw [if_pos rfl]
    split at hu
    ·rename_i hlt
     simp only [Option.some.injEq] at hu
     subst hu
     rw [if_pos (by rw [hR.size]; exact hlt)]
     exact ⟨x, rfl, hc⟩
    ·cases hu
   ·rw [if_neg e] at hu
    rw [if_neg e]
    exact hR.tmps t u hu
end
end Go.Proofs.YtbbpcbjgekencaaGreatDoor.Ev
end
section
set_option linter.unusedVariables false
set_option linter.unusedSimpArgs false
set_option linter.unusedVariables false
namespace Go.Proofs.YtbbpcbjgekencaaGreatDoor.Ev
open Go Go.RowKit
section
variable {T : Tab} {P : Program} {W : World} {O A : Nat → Prop} {E0 : Env} {E : Env} {w : World}
theorem wp_value {o : Oper} {a : Act} {x : Value} {N : Act → World → Prop} {Q : Exit → Act → World → Prop} {w' : World} (h : (execOp a.eval o).run P w = .ok (.value x) w') (hN : N (a.put o.dst x) w') : o.wp P a w N Q := by
 unfold Oper.wp
 rw [h]
 exact hN
def OpSound (T : Tab) (P : Program) (S : FuncId → Option (FnS T.Γ)) (o : Oper) : Prop :=
 ∀ (W : World) (O A : Nat → Prop) (E0 : Env) (k : Nat) (st : St T.Γ) (E : Env) (a : Act) (w : World) (v : AV T.Γ) (mc : MC T.Γ) (st' : St T.Γ) (N : Act → World → Prop) (Q : Exit → Act → World → Prop),
  Rel T W O A E0 E st a w → evalD T P S k o st.eval st.mem (fun v mc => some (v, mc)) = some (v, mc) → st.apply o.dst v mc = some st' →
  (∀ E' a' w', Rel T W O A E0 E' st' a' w' → N a' w') → o.wp P a w N Q
def ValOk (T : Tab) (P : Program) (S : FuncId → Option (FnS T.Γ)) (o : Oper) : Prop :=
 ∀ (W : World) (O A : Nat → Prop) (E0 : Env) (k : Nat) (st : St T.Γ) (E : Env) (a : Act) (w : World) (v : AV T.Γ) (mc : MC T.Γ),
  Rel T W O A E0 E st a w → evalD T P S k o st.eval st.mem (fun v mc => some (v, mc)) = some (v, mc) →
  mc.sets = [] ∧ ∃ x, (execOp a.eval o).run P w = .ok (.value x) w ∧ ConcA T E (SB T W O A E st.mem w) w v x
theorem ValOk.sound {S : FuncId → Option (FnS T.Γ)} {o : Oper} (h : ValOk T P S o) : OpSound T P S o := by
 intro W O A E0 k st E a w v mc st' N Q hR he ha hN
 obtain ⟨h1, x, h2, h3⟩ := h W O A E0 k st E a w v mc hR he
 unfold St.apply at ha
 rw [h1] at ha
 simp only [Option.some.injEq] at ha
 subst ha
 exact wp_value h2 (hN E _ w (put_rel hR h3))
theorem bind_value {a : Act} {s : Sem Value} {x : Value} {w' : World} (h : s.run P w = .ok x w') : (do pure (Next.value (← s)) : Sem Next).run P w = .ok (.value x) w' := by
 rw [Sem.run_bind, h]
 rfl
theorem sem_ok {s : Sem Value} {v : AV T.Γ} {mc : MC T.Γ} {B : Pv → Nat → Prop}
  (h : (match pureRun P s with
   | some u => match ofValue (Γ := T.Γ) u with
    | some b => some (b, MC.no)
    | none => none
   | none => none) = some (v, mc)) : mc.sets = [] ∧ ∃ x, s.run P w = .ok x w ∧ ConcA T E B w v x := by
 split at h
 ·rename_i u hu
  split at h
  ·rename_i b hb
   simp only [Option.some.injEq, Prod.mk.injEq] at h
   obtain ⟨rfl, rfl⟩ := h
   exact ⟨rfl, u, pureRun_run P s u w hu, ofValue_conc u b hb⟩
  ·cases h
 ·cases h
theorem bind_toValue {st : St T.Γ} {a : Act} {x : Operand} {u : Value} (hR : Rel T W O A E0 E st a w) (h : (st.eval x).bind toValue = some u) : a.eval x = u := by
 cases hq : st.eval x with
 | none => rw [hq] at h; cases h
 | some v => rw [hq] at h; exact toValue_conc v u _ h (eval_conc hR hq)
theorem br_some {ω : Type} {c : Prop} [Decidable c] {a b : Option ω} {r : ω} (h : br c a b = some r) : (c ∧ a = some r) ∨ (¬ c ∧ b = some r) := by
 unfold br at h
 split at h
 ·exact .inl ⟨‹_›, h⟩
 ·exact .inr ⟨‹_›, h⟩
theorem pick_ok (S : FuncId → Option (FnS T.Γ)) (o : Oper) (c x y : Operand) (ho : o.op = .pick c x y) : ValOk T P S o := by
 intro W O A E0 k st E a w v mc hR h
 simp only [evalD, ho] at h
 split at h
 ·rename_i t ht
  have e := eval_cell hR ht
  have key : ∀ z : Operand, (match st.eval z with
    | some v => some (v, MC.no)
    | none => none) = some (v, mc) → (execOp a.eval o).run P w = .ok (.value (a.eval z)) w → mc.sets = [] ∧ ∃ x, (execOp a.eval o).run P w = .ok (.value x) w ∧ ConcA T E (SB T W O A E st.mem w) w v x := by
   intro z hz hr
   split at hz
   ·rename_i u hu
    simp only [Option.some.injEq, Prod.mk.injEq] at hz
    obtain ⟨rfl, rfl⟩ := hz
    exact ⟨rfl, a.eval z, hr, eval_conc hR hu⟩
   ·cases hz
  rcases br_some h with ⟨hc, h'⟩ | ⟨hc, h'⟩
  ·subst hc
   refine key x h' ?_
   simp only [execOp, ho]
   rw [e]
   rfl
  ·obtain rfl : t = false := by simpa using hc
   refine key y h' ?_
   simp only [execOp, ho]
   rw [e]
   rfl
 ·cases h
theorem unOp_ok (S : FuncId → Option (FnS T.Γ)) (o : Oper) (op : UnOp) (t : TypeId) (x : Operand) (ho : o.op = .unOp op t x) : ValOk T P S o := by
 intro W O A E0 k st E a w v mc hR h
 simp only [evalD, ho] at h
 split at h
 ·rename_i u1 h1
  have e1 := bind_toValue hR h1
  obtain ⟨hm, z, hz, hc⟩ := sem_ok (E := E) (w := w) (B := SB T W O A E st.mem w) h
  refine ⟨hm, z, ?_, hc⟩
  simp only [execOp, ho]
  rw [e1]
  exact bind_value (a := a) hz
 ·cases h
theorem extract_ok (S : FuncId → Option (FnS T.Γ)) (o : Oper) (x : Operand) (i : Nat) (ho : o.op = .extract x i) : ValOk T P S o := by
 intro W O A E0 k st E a w v mc hR h
 simp only [evalD, ho] at h
 split at h
 ·rename_i l hl
  split at h
  ·rename_i u hu
   simp only [Option.some.injEq, Prod.mk.injEq] at h
   obtain ⟨rfl, rfl⟩ := h
   have hc := eval_conc hR hl
   generalize hv : a.eval x = vx at hc
   cases hc with
   | tup hs hc =>
    rename_i vs
    have hi : i < l.length := (List.getElem?_eq_some_iff.mp hu).1
    have hz : vs[i]? = some (vs[i]'(by omega)) := Array.getElem?_eq_getElem (by omega)
    refine ⟨rfl, vs[i]'(by omega), ?_, .t (hc i u _ hu hz)⟩
    simp only [execOp, ho]
    rw [hv]
    refine bind_value (a := a) ?_
    simp only [Instr.extract, hz]
    rfl
  ·cases h
 ·cases h
theorem convert_ok (hT : TabOk T P) (S : FuncId → Option (FnS T.Γ)) (o : Oper) (s d : TypeId) (x : Operand) (ho : o.op = .convert s d x) : ValOk T P S o := by
 intro W O A E0 k st E a w v mc hR h
 simp only [evalD, ho] at h
 split at h
 ·rename_i k1 k2 k3 n h1 h2 h3
  have e := eval_cell hR h3
  simp only [Option.some.injEq, Prod.mk.injEq] at h
  obtain ⟨rfl, rfl⟩ := h
  refine ⟨rfl, _, ?_, .t (.cell (.c _))⟩
  simp only [execOp, ho]
  rw [e]
  refine bind_value (a := a) ?_
  unfold Go.convert
  rw [Sem.run_bind, run_underlying (hT.und _ _ h1), Result.andThen_ok, Sem.run_bind, run_underlying (hT.und _ _ h2), Result.andThen_ok]
  rfl
 ·cases h
theorem capsOf_conc {B : Pv → Nat → Prop} {st : St T.Γ} {a : Act} (hR : Rel T W O A E0 E st a w) : ∀ (xs : List Operand) (vs : List (AV T.Γ)) (caps : List (Nat × Nat)), allVals st.eval xs = some vs → capsOf T vs = some caps →
  xs.length = caps.length ∧ ∀ (j s o : Nat), caps[j]? = some (s, o) → ∃ g, E.ρ s = some g ∧ (xs.map a.eval)[j]? = some (.pointer (some ⟨g, o, none⟩)) := by
 intro xs
 induction xs with
 | nil =>
  intro vs caps h1 h2
  simp only [allVals, Option.some.injEq] at h1
  subst h1
  simp only [capsOf, Option.some.injEq] at h2
  subst h2
  exact ⟨rfl, fun j s o h => by simp at h⟩
 | cons x r ih =>
  intro vs caps h1 h2
  simp only [allVals] at h1
  split at h1
  ·rename_i v hv
   cases hq : allVals st.eval r with
   | none => rw [hq] at h1; cases h1
   | some l =>
    rw [hq] at h1
    simp only [Option.map_some, Option.some.injEq] at h1
    subst h1
    unfold capsOf at h2
    split at h2
    ·rename_i heq; cases heq
    ·rename_i s o r' heq
     simp only [List.cons.injEq] at heq
     obtain ⟨rfl, rfl⟩ := heq
     cases hq2 : capsOf T l with
     | none => rw [hq2] at h2; cases h2
     | some c2 =>
      rw [hq2] at h2
      simp only [Option.map_some, Option.some.injEq] at h2
      subst h2
      obtain ⟨i1, i2⟩ := ih l c2 hq hq2
      refine ⟨by simp [i1], fun j s' o' hj => ?_⟩
      cases j with
      | zero =>
       simp only [List.getElem?_cons_zero, Option.some.injEq, Prod.mk.injEq] at hj
       obtain ⟨rfl, rfl⟩ := hj
       have hc := eval_conc hR hv
       generalize hx : a.eval x = vx at hc
       cases hc with
       | t hc => cases hc with
        | cell hc => cases hc with
         | box _ _ g hg => exact ⟨g, hg, by simp [hx]⟩
      | succ j => simpa using i2 j s' o' (by simpa using hj)
    ·cases h2
  ·cases h1
theorem makeFunc_ok (S : FuncId → Option (FnS T.Γ)) (o : Oper) (fn : Fn) (first captured : Array Operand) (ho : o.op = .makeFunc fn first captured) : ValOk T P S o := by
 intro W O A E0 k st E a w v mc hR h
 cases fn with
 | func f =>
  simp only [evalD, ho] at h
  split at h
  ·rename_i caps hf hc
   simp only [Option.some.injEq, Prod.mk.injEq] at h
   obtain ⟨rfl, rfl⟩ := h
   cases hq : allVals st.eval captured.toList with
   | none => rw [hq] at hc; cases hc
   | some vs =>
    rw [hq] at hc
    obtain ⟨h1, h2⟩ := capsOf_conc (B := SB T W O A E st.mem w) hR _ _ _ hq hc
    have hf0 : first = #[] := by simpa using hf
    refine ⟨rfl, .func (.func f) #[] (captured.map a.eval), ?_, .t (.cell (.fn f caps _ ?_ ?_))⟩
    ·simp only [execOp, ho, hf0, Array.map_empty]
     exact bind_value (a := a) rfl
    ·simpa using h1
    ·intro j s o' hj
     obtain ⟨g, hg, hx⟩ := h2 j s o' hj
     refine ⟨g, hg, ?_⟩
     rw [Array.getElem?_map]
     rw [List.getElem?_map, Array.getElem?_toList] at hx
     exact hx
  ·cases h
 | _ => simp [evalD, ho] at h
theorem kindEq_eq {k k' : IntKind} (h : kindEq k k' = true) : k = k' := by
 cases k <;> cases k' <;> first | rfl | cases h
theorem sizeOf_run (hT : TabOk T P) {e : TypeId} {n : Nat} (h : T.size e = some n) : (sizeOf e).run P w = .ok n w := by
 have := hT.size _ _ h
 cases hq : P.info? e with
 | none => rw [hq] at this; cases this
 | some i =>
  rw [hq] at this
  simp only [Option.map_some, Option.some.injEq] at this
  simp [sizeOf, typeInfo, hq, this]
theorem isAgg_run (hT : TabOk T P) {t : TypeId} {b : Bool} (h : isAgg T t = some b) : (Go.isAgg t).run P w = .ok b w := by
 unfold isAgg at h
 unfold Go.isAgg
 split at h
 ·rename_i hd
  simp only [Option.some.injEq] at h
  subst h
  rw [Sem.run_bind, run_underlying (hT.und _ _ hd) w]
  rfl
 ·rename_i hd
  simp only [Option.some.injEq] at h
  subst h
  rw [Sem.run_bind, run_underlying (hT.und _ _ hd) w]
  rfl
 ·rename_i d h1 h2 hd
  simp only [Option.some.injEq] at h
  subst h
  rw [Sem.run_bind, run_underlying (hT.und _ _ hd) w]
  cases d <;> first | rfl | exact absurd rfl (h1 _) | exact absurd rfl (h2 _ _)
 ·cases h
theorem ofPart_part (hT : TabOk T P) {B : Pv → Nat → Prop} {t : TypeId} {l : List (CV T.Γ)} {v : AV T.Γ} {off : Nat} {vs : Array Value} (h : ofPart T t (l.drop off) = some v) (hc : ConcL T E B w l vs.toList) :
  ∃ x, (part t vs off).run P w = .ok x w ∧ ConcA T E B w v x := by
 unfold ofPart at h
 split at h
 ·rename_i n ha hs
  split at h
  ·rename_i hl
   have hl := beq_iff_eq.mp hl
   simp only [Option.some.injEq] at h
   subst h
   refine ⟨.agg (vs.extract off (off + n)), ?_, .t (.agg ?_)⟩
   ·unfold part
    rw [Sem.run_bind, isAgg_run hT ha, Result.andThen_ok, if_pos rfl, Sem.run_bind, sizeOf_run hT hs]
    rfl
   ·have hn : off + n ≤ l.length ∨ n = 0 := by rw [List.length_take, List.length_drop] at hl; omega
    refine ⟨?_, fun j cv u h1 h2 => ?_⟩
    ·have := hc.1
     rw [hl]
     simp at this ⊢
     omega
    ·rw [List.getElem?_take] at h1
     split at h1
     ·rename_i hj
      rw [List.getElem?_drop] at h1
      refine hc.2 (off + j) cv u h1 ?_
      rw [Array.getElem?_toList, Array.getElem?_extract] at h2
      split at h2
      ·rw [Array.getElem?_toList]; exact h2
      ·cases h2
     ·cases h1
  ·cases h
 ·rename_i n ha hs
  split at h
  ·rename_i x r hx
   simp only [Option.some.injEq] at h
   subst h
   have h0 : l[off]? = some x := by
    have : (l.drop off)[0]? = some x := by rw [hx]; rfl
    rw [List.getElem?_drop] at this
    exact this
   have hlt : off < vs.size := by have := hc.1; have h2 := (List.getElem?_eq_some_iff.mp h0).1; simp at this; omega
   refine ⟨vs[off], ?_, .t (.cell (hc.2 off x _ h0 (by simp [hlt])))⟩
   unfold part
   rw [Sem.run_bind, isAgg_run hT ha, Result.andThen_ok, if_neg (by decide)]
   rw [Array.getElem?_eq_getElem hlt]
   rfl
  ·cases h
 ·cases h
theorem field_ok (hT : TabOk T P) (S : FuncId → Option (FnS T.Γ)) (o : Oper) (t : TypeId) (x : Operand) (f : Nat) (ho : o.op = .field t x f) : ValOk T P S o := by
 intro W O A E0 k st E a w v mc hR h
 simp only [evalD, ho] at h
 split at h
 ·rename_i fs l hu hp
  split at h
  ·rename_i fd hf
   split at h
   ·rename_i u hq
    simp only [Option.some.injEq, Prod.mk.injEq] at h
    obtain ⟨rfl, rfl⟩ := h
    have hc := eval_conc hR hp
    generalize hv : a.eval x = vx at hc
    cases hc with
    | t hc =>
    cases hc with
    | agg hc =>
    obtain ⟨z, hz, hzc⟩ := ofPart_part hT hq hc
    refine ⟨rfl, z, ?_, hzc⟩
    simp only [execOp, ho]
    rw [hv]
    refine bind_value (a := a) ?_
    unfold Instr.field
    rw [Sem.run_bind, run_underlying (hT.und _ _ hu), Result.andThen_ok]
    simp only [hf, asAgg, Sem.run_bind, Sem.run_pure, Result.andThen_ok, hz]
   ·cases h
  ·cases h
 ·cases h
end
end Go.Proofs.YtbbpcbjgekencaaGreatDoor.Ev
end
section
set_option linter.unusedVariables false
set_option linter.unusedSimpArgs false
set_option linter.unusedVariables false
namespace Go.Proofs.YtbbpcbjgekencaaGreatDoor.Ev
open Go Go.RowKit
section
variable {T : Tab} {P : Program} {W : World} {O A : Nat → Prop} {E0 : Env} {E : Env} {B : Pv → Nat → Prop} {w : World}
theorem range_of {l : List (CV T.Γ)} {g off : Nat} {f : Nat → Value} (o : Nat) (hy : ∀ (j : Nat) cv, l[j]? = some cv → w.cell? ⟨g, off + j, none⟩ = some (f j)) (hz : ∀ (j : Nat) cv, l[j]? = some cv → Conc T E B w cv (f j)) :
  ∃ vs, w.rangeAt g (off + o) vs ∧ ConcL T E B w (l.drop o) vs := by
 refine ⟨(List.range (l.drop o).length).map fun j => f (o + j), ?_, by simp, ?_⟩
 ·intro j v hj
  rw [List.getElem?_map] at hj
  cases hr : (List.range (l.drop o).length)[j]? with
  | none => rw [hr] at hj; cases hj
  | some q =>
   rw [hr] at hj
   obtain ⟨hlt, hq⟩ := List.getElem?_eq_some_iff.mp hr
   rw [List.getElem_range] at hq
   subst hq
   simp only [Option.map_some, Option.some.injEq] at hj
   subst hj
   rw [List.length_range] at hlt
   have hlt2 : o + j < l.length := by rw [List.length_drop] at hlt; omega
   have := hy (o + j) _ (List.getElem?_eq_getElem hlt2)
   rw [← Nat.add_assoc] at this
   exact this
 ·intro j cv v hj hv
  rw [List.getElem?_drop] at hj
  rw [List.getElem?_map] at hv
  cases hr : (List.range (l.drop o).length)[j]? with
  | none => rw [hr] at hv; cases hv
  | some q =>
   rw [hr] at hv
   obtain ⟨hlt, hq⟩ := List.getElem?_eq_some_iff.mp hr
   rw [List.getElem_range] at hq
   subst hq
   simp only [Option.map_some, Option.some.injEq] at hv
   subst hv
   exact hz (o + j) cv hj
theorem ofPart_load (hT : TabOk T P) {t : TypeId} {l : List (CV T.Γ)} {v : AV T.Γ} {g o : Nat} {vs : List Value} (h : ofPart T t l = some v) (hr : w.rangeAt g o vs) (hc : ConcL T E B w l vs) :
  ∃ x, (Instr.loadAt t (.pointer (some ⟨g, o, none⟩))).run P w = .ok x w ∧ ConcA T E B w v x := by
 unfold ofPart at h
 split at h
 ·rename_i n ha hs
  split at h
  ·rename_i hl
   have hl := beq_iff_eq.mp hl
   simp only [Option.some.injEq] at h
   subst h
   have hn : n ≤ l.length := by rw [List.length_take] at hl; omega
   have hlen : (vs.take n).length = n := by rw [List.length_take, hc.1]; omega
   obtain ⟨d, hd, hrow⟩ : ∃ d, T.und t = some d ∧ d.isRow = true := by
    unfold isAgg at ha
    split at ha
    ·rename_i h; exact ⟨_, h, rfl⟩
    ·rename_i h; exact ⟨_, h, rfl⟩
    ·cases ha
    ·cases ha
   refine ⟨_, run_loadAt_mid w g o t (vs.take n) d (fun j v hj => ?_) (hT.und _ _ hd) hrow (by rw [hlen]; exact hT.size _ _ hs), .t (.agg ?_)⟩
   ·rw [List.getElem?_take] at hj
    split at hj
    ·exact hr j v hj
    ·cases hj
   ·show ConcL T E B w (l.take n) (vs.take n)
    refine ⟨by rw [List.length_take, List.length_take, hc.1], fun j cv v h1 h2 => ?_⟩
    rw [List.getElem?_take] at h1 h2
    split at h1
    ·rename_i hj
     rw [if_pos hj] at h2
     exact hc.2 j cv v h1 h2
    ·cases h1
  ·cases h
 ·rename_i n ha hs
  split at h
  ·rename_i x r
   simp only [Option.some.injEq] at h
   subst h
   cases vs with
   | nil => have := hc.1; simp at this
   | cons y ys =>
    obtain ⟨d, hd, hrow⟩ : ∃ d, T.und t = some d ∧ d.isRow = false := by
     unfold isAgg at ha
     split at ha
     ·cases ha
     ·cases ha
     ·rename_i d h1 h2 h
      refine ⟨d, h, ?_⟩
      cases d <;> first | rfl | exact absurd rfl (h1 _) | exact absurd rfl (h2 _ _)
     ·cases ha
    refine ⟨y, ?_, .t (.cell (hc.2 0 x y rfl rfl))⟩
    have hcell : w.cell? ⟨g, o, none⟩ = some y := hr 0 y rfl
    have hagg : (Go.isAgg t).run P w = .ok false w := by
     unfold Go.isAgg
     rw [Sem.run_bind, run_underlying (hT.und _ _ hd) w]
     cases d <;> simp_all
    simp only [Instr.loadAt, Instr.sureAddr, Sem.run_bind, Sem.run_pure, Result.andThen_ok, loadVar, hagg]
    rw [if_neg (by decide)]
    show (Sem.load _ _ _).run P w = _
    simp only [Sem.run, hcell]
  ·cases h
 ·cases h
theorem row_at {s : Nat} {q : Bool} {e : TypeId} {l : List (T.Γ.el e).ty} {g : Nat} {i : Nat} (hb : BlkOk T E B w s (.row q e l)) (hg : E.ρ s = some g) (hi : i < l.length) :
  ∃ f : Nat → Value, (∀ (j : Nat) cv, (cellsQ T (pvOf q) e l[i])[j]? = some cv → w.cell? ⟨g, i * (T.Γ.el e).n + j, none⟩ = some (f j)) ∧ ∀ (j : Nat) cv, (cellsQ T (pvOf q) e l[i])[j]? = some cv → Conc T E B w cv (f j) := by
 cases hb with
 | row _ _ _ g' cap vs hg' hf hh hs hc hv h =>
  obtain rfl : g = g' := Option.some.inj (hg.symm.trans hg')
  refine ⟨fun j => vs.getD (i * (T.Γ.el e).n + j) undef, fun j cv hj => ?_, fun j cv hj => ?_⟩
  ·obtain ⟨y, hy, hz⟩ := h i hi j cv hj
   simp only [World.cell?, hh]
   simp [hy]
  ·obtain ⟨y, hy, hz⟩ := h i hi j cv hj
   simp only [Array.getD_eq_getD_getElem?, hy, Option.getD_some]
   exact hz
 | nil => simp at hi
theorem load_ok (hT : TabOk T P) (S : FuncId → Option (FnS T.Γ)) (o : Oper) (t : TypeId) (x : Operand) (ho : o.op = .load t x) : ValOk T P S o := by
 intro W O A E0 k st E a w v mc hR h
 simp only [evalD, ho] at h
 split at h
 ·rename_i p hp
  have hc := eval_conc hR hp
  generalize hv : a.eval x = vx at hc
  cases hc with
  | t hc =>
  cases hc with
  | cell hc =>
  have key : ∀ z, (Instr.loadAt t vx).run P w = .ok z w → (execOp a.eval o).run P w = .ok (.value z) w := by
   intro z hz
   simp only [execOp, ho]
   rw [hv]
   exact bind_value (a := a) hz
  unfold loadA at h
  split at h
  ·rename_i s q
   split at h
   ·rename_i t' cs hm
    split at h
    ·rename_i u hu
     simp only [Option.some.injEq, Prod.mk.injEq] at h
     obtain ⟨rfl, rfl⟩ := h
     cases hc with
     | box s q g hg =>
     have hb := hR.mem.blk s _ hm
     cases hb with
     | box _ _ g' vs hg' hf hh hl =>
     obtain rfl : g = g' := Option.some.inj (hg.symm.trans hg')
     obtain ⟨us, hr, hl2⟩ := range_of (w := w) (l := cs) (g := g) (off := 0) (f := fun j => vs.getD j undef) q (fun j cv hj => by
      have hlt : j < vs.size := by have := hl.1; have h2 := (List.getElem?_eq_some_iff.mp hj).1; simp at this; omega
      simp only [World.cell?, hh, Nat.zero_add]
      simp [hlt]) (fun j cv hj => by
      have hlt : j < vs.size := by have := hl.1; have h2 := (List.getElem?_eq_some_iff.mp hj).1; simp at this; omega
      exact hl.2 j cv _ hj (by simp [hlt]))
     rw [Nat.zero_add] at hr
     obtain ⟨z, hz, hzc⟩ := ofPart_load hT hu hr hl2
     exact ⟨rfl, z, key z hz, hzc⟩
    ·cases h
   ·cases h
  ·rename_i q e y o'
   split at h
   ·rename_i u hu
    simp only [Option.some.injEq, Prod.mk.injEq] at h
    obtain ⟨rfl, rfl⟩ := h
    cases hc with
    | elp _ _ _ _ g off f hB hy hz =>
    obtain ⟨us, hr, hl2⟩ := range_of (w := w) (l := cellsQ T q e y) (g := g) (off := off) (f := f) o' hy hz
    obtain ⟨z, hz, hzc⟩ := ofPart_load hT hu hr hl2
    exact ⟨rfl, z, key z hz, hzc⟩
   ·cases h
  ·rename_i s e i q
   split at h
   ·rename_i q' e' l hm
    split at h
    ·rename_i he
     subst he
     rcases br_some h with ⟨hi, h'⟩ | ⟨_, h'⟩
     ·split at h'
      ·rename_i u hu
       simp only [Option.some.injEq, Prod.mk.injEq] at h'
       obtain ⟨rfl, rfl⟩ := h'
       cases hc with
       | rowp s e i q g hg =>
       have hb := hR.mem.blk s _ hm
       obtain ⟨f, hy, hz⟩ := row_at hb hg hi
       rw [List.getD_eq_getElem?_getD, List.getElem?_eq_getElem hi] at hu
       obtain ⟨us, hr, hl2⟩ := range_of (w := w) (l := cellsQ T (pvOf q') e' l[i.toNat]) (g := g) (off := i.toNat * (T.Γ.el e').n) (f := f) q hy hz
       obtain ⟨z, hz, hzc⟩ := ofPart_load hT hu hr hl2
       exact ⟨rfl, z, key z hz, hzc⟩
      ·cases h'
     ·cases h'
    ·cases h
   ·cases h
  ·cases h
 ·cases h
theorem nilCheck_ok (S : FuncId → Option (FnS T.Γ)) (o : Oper) (x : Operand) (ho : o.op = .nilCheck x) : ValOk T P S o := by
 intro W O A E0 k st E a w v mc hR h
 simp only [evalD, ho] at h
 have key : ∀ u, st.eval x = some (.t (.cell u)) → (∀ y, Conc T E (SB T W O A E st.mem w) w u y → ∃ A, y = .pointer (some A)) → some (AV.t (TV.cell u), (MC.no : MC T.Γ)) = some (v, mc) →
   mc.sets = [] ∧ ∃ x, (execOp a.eval o).run P w = .ok (.value x) w ∧ ConcA T E (SB T W O A E st.mem w) w v x := by
  intro u hu hA h
  simp only [Option.some.injEq, Prod.mk.injEq] at h
  obtain ⟨rfl, rfl⟩ := h
  have hc := eval_conc hR hu
  refine ⟨rfl, a.eval x, ?_, hc⟩
  cases hc with
  | t hc =>
  cases hc with
  | cell hc =>
  obtain ⟨A, hA⟩ := hA _ hc
  simp only [execOp, ho]
  rw [hA]
  rfl
 split at h
 ·rename_i s q hu
  exact key _ hu (fun y hy => by cases hy; exact ⟨_, rfl⟩) h
 ·rename_i q e y o' hu
  exact key _ hu (fun y hy => by cases hy; exact ⟨_, rfl⟩) h
 ·rename_i s e i q hu
  exact key _ hu (fun y hy => by cases hy; exact ⟨_, rfl⟩) h
 ·cases h
theorem fieldAt_run (hT : TabOk T P) {t : TypeId} {fs : Array Field} {f : Nat} {fd : Field} {n g o : Nat} (hu : T.und t = some (.struct fs)) (hf : fs[f]? = some fd) (hn : T.size fd.type = some n) (h0 : n ≠ 0) :
  (Instr.fieldAt t (.pointer (some ⟨g, o, none⟩)) f).run P w = .ok (.pointer (some ⟨g, o + fd.offset, none⟩)) w := by
 have hs : (sizeOf fd.type).run P w = .ok n w := sizeOf_run hT hn
 unfold Instr.fieldAt
 rw [Sem.run_bind, run_underlying (hT.und _ _ hu), Result.andThen_ok]
 simp only [hf, Instr.sureAddr, fieldPlace, Sem.run_bind, Sem.run_pure, Result.andThen_ok, hs, if_neg h0, Addr.add_mid]
theorem fieldAddr_ok (hT : TabOk T P) (S : FuncId → Option (FnS T.Γ)) (o : Oper) (t : TypeId) (x : Operand) (f : Nat) (ho : o.op = .fieldAddr t x f) : ValOk T P S o := by
 intro W O A E0 k st E a w v mc hR h
 simp only [evalD, ho] at h
 split at h
 ·rename_i fs p hu hp
  split at h
  ·rename_i fd hf
   split at h
   ·rename_i n hn
    split at h
    ·rename_i q hq
     simp only [Option.some.injEq, Prod.mk.injEq] at h
     obtain ⟨rfl, rfl⟩ := h
     have h0 : n + 1 ≠ 0 := by omega
     have hc := eval_conc hR hp
     generalize hv : a.eval x = vx at hc
     cases hc with
     | t hc =>
     cases hc with
     | cell hc =>
     have key : ∀ z, (Instr.fieldAt t vx f).run P w = .ok z w → (execOp a.eval o).run P w = .ok (.value z) w := by
      intro z hz
      simp only [execOp, ho]
      rw [hv]
      exact bind_value (a := a) hz
     cases hc with
     | box s q g hg =>
      simp only [fieldA, Option.some.injEq] at hq
      subst hq
      exact ⟨rfl, _, key _ (fieldAt_run hT hu hf hn h0), .t (.cell (.box _ _ _ hg))⟩
     | elp pq e y q g off y' hB hy hz =>
      simp only [fieldA, Option.some.injEq] at hq
      subst hq
      refine ⟨rfl, _, key _ (fieldAt_run hT hu hf hn h0), .t (.cell ?_)⟩
      rw [Nat.add_assoc]
      exact .elp _ _ _ _ _ _ _ hB hy hz
     | rowp s e i q g hg =>
      simp only [fieldA, Option.some.injEq] at hq
      subst hq
      refine ⟨rfl, _, key _ (fieldAt_run hT hu hf hn h0), .t (.cell ?_)⟩
      rw [Nat.add_assoc]
      exact .rowp _ _ _ _ _ hg
     | c => cases hq
     | sl0 => cases hq
     | sl => cases hq
     | own => cases hq
     | fn => cases hq
    ·cases h
   ·cases h
  ·cases h
 ·cases h
theorem indexAt_run (hT : TabOk T P) {t e : TypeId} {k : IntKind} {i : Int} {g off len cap n : Nat} (hu : T.und t = some (.slice e)) (hn : T.size e = some n) (h0 : 0 ≤ i) (hi : i < (len : Int)) :
  (Instr.indexAt t (.slice (some ⟨g, off, none⟩) len cap) (.int k i)).run P w = .ok (.pointer (some ⟨g, off + i.toNat * n, none⟩)) w := by
 unfold Instr.indexAt
 simp only [asIntOf, Sem.run_bind, Sem.run_pure, Result.andThen_ok, run_underlying (hT.und _ _ hu)]
 simp only [if_pos (And.intro h0 hi), Sem.run_bind, sizeOf_run hT hn, Result.andThen_ok, Sem.run_pure, Addr.add_mid]
theorem std_elem {e elem : TypeId} (h : (e == elem && T.std e) = true) : e = elem ∧ T.std e = true := by
 simp only [Bool.and_eq_true, beq_iff_eq] at h
 exact h
theorem sl_elem (hT : TabOk T P) {p : Pv} {e : TypeId} {l : List (T.Γ.el e).ty} {vx : Value} {t : TypeId} {kk : IntKind} {i : Int} (hc : Conc T E B w (.sl p e l) vx) (hu : T.und t = some (.slice e)) (hs : T.std e = true) (h0 : 0 ≤ i) (hi : i < (l.length : Int)) :
  ∃ z, (Instr.indexAt t vx (.int kk i)).run P w = .ok z w ∧ Conc T E B w (.elp p e (l.getD i.toNat (T.Γ.el e).z) 0) z := by
 have hlt : i.toNat < l.length := by omega
 cases hc with
 | sl0 => simp at hlt
 | sl _ _ _ g off cap y hcap hB hy hz =>
  refine ⟨_, indexAt_run hT hu (hT.std e hs).1 h0 hi, ?_⟩
  rw [List.getD_eq_getElem?_getD, List.getElem?_eq_getElem hlt]
  exact .elp _ _ _ 0 g (off + i.toNat * (T.Γ.el e).n) (y i.toNat) hB (fun j cv hj => hy i.toNat hlt j cv hj) (fun j cv hj => hz i.toNat hlt j cv hj)
theorem indexAddr_ok (hT : TabOk T P) (S : FuncId → Option (FnS T.Γ)) (o : Oper) (t : TypeId) (x ix : Operand) (ho : o.op = .indexAddr t x ix) : ValOk T P S o := by
 intro W O A E0 k st E a w v mc hR h
 simp only [evalD, ho] at h
 split at h
 ·rename_i elem p kk i hu hp hix
  have ei := eval_cell hR hix
  have hc := eval_conc hR hp
  generalize hv : a.eval x = vx at hc
  cases hc with
  | t hc =>
  cases hc with
  | cell hc =>
  have key : ∀ z, (Instr.indexAt t vx (.int kk i)).run P w = .ok z w → (execOp a.eval o).run P w = .ok (.value z) w := by
   intro z hz
   simp only [execOp, ho]
   rw [hv, ei]
   exact bind_value (a := a) hz
  unfold indexA at h
  split at h
  ·rename_i q e l
   split at h
   ·rename_i hd
    obtain ⟨rfl, hs⟩ := std_elem hd
    rcases br_some h with ⟨h0, h'⟩ | ⟨_, h'⟩
    ·rcases br_some h' with ⟨hi, h2⟩ | ⟨_, h2⟩
     ·simp only [Option.some.injEq, Prod.mk.injEq] at h2
      obtain ⟨rfl, rfl⟩ := h2
      obtain ⟨z, hz, hzc⟩ := sl_elem (kk := kk) hT hc hu hs h0 hi
      exact ⟨rfl, z, key z hz, .t (.cell hzc)⟩
     ·cases h2
    ·cases h'
   ·cases h
  ·rename_i s
   split at h
   ·rename_i q e l hm
    split at h
    ·rename_i hd
     obtain ⟨rfl, hs⟩ := std_elem hd
     rcases br_some h with ⟨h0, h'⟩ | ⟨_, h'⟩
     ·rcases br_some h' with ⟨hi, h2⟩ | ⟨_, h2⟩
      ·simp only [Option.some.injEq, Prod.mk.injEq] at h2
       obtain ⟨rfl, rfl⟩ := h2
       have hlt : i.toNat < l.length := by omega
       cases hc
       have hb := hR.mem.blk s _ hm
       cases hb with
       | row _ _ _ g cap vs hg hf hh hsv hcap hvs hel =>
        rw [hsv] at key
        refine ⟨rfl, _, key _ (indexAt_run hT hu (hT.std e hs).1 h0 hi), .t (.cell ?_)⟩
        rw [Nat.zero_add]
        exact .rowp s e i 0 g hg
       | nil => simp at hlt
      ·cases h2
     ·cases h'
    ·cases h
   ·rename_i q e l hm
    split at h
    ·rename_i hd
     obtain ⟨rfl, hs⟩ := std_elem hd
     rcases br_some h with ⟨h0, h'⟩ | ⟨_, h'⟩
     ·rcases br_some h' with ⟨hi, h2⟩ | ⟨_, h2⟩
      ·simp only [Option.some.injEq, Prod.mk.injEq] at h2
       obtain ⟨rfl, rfl⟩ := h2
       cases hc
       have hb := hR.mem.blk s _ hm
       cases hb with
       | cold _ _ _ hcl =>
        obtain ⟨z, hz, hzc⟩ := sl_elem (kk := kk) hT hcl hu hs h0 hi
        exact ⟨rfl, z, key z hz, .t (.cell hzc)⟩
      ·cases h2
     ·cases h'
    ·cases h
   ·cases h
  ·cases h
 ·cases h
end
end Go.Proofs.YtbbpcbjgekencaaGreatDoor.Ev
end
section
set_option linter.unusedVariables false
set_option linter.unusedSimpArgs false
set_option linter.unusedVariables false
namespace Go.Proofs.YtbbpcbjgekencaaGreatDoor.Ev
open Go Go.RowKit
section
variable {T : Tab} {P : Program} {W : World} {O A : Nat → Prop} {E0 : Env} {E : Env} {B : Pv → Nat → Prop} {w : World}
theorem builtin_run {a : Act} {o : Oper} {c : Call} {b : Builtin} {x : Value} {w' : World} {s : Sem Value} (ho : o.op = .call c) (hc : c.callee = .builtin b)
  (hb : ∀ (consts : Array Bool), Go.builtin b c.argTypes o.type consts (c.args.map a.eval) = (do pure (Next.value (← s)) : Sem Next)) (hs : s.run P w = .ok x w') :
  (execOp a.eval o).run P w = .ok (.value x) w' := by
 simp only [execOp, ho, resolve, hc]
 show (invoke (.builtin b c.argTypes o.type _) (c.args.map a.eval)).run P w = _
 unfold invoke
 simp only
 rw [hb]
 exact bind_value (a := a) hs
theorem lenOf_conc {st : St T.Γ} {a : Act} {p : CV T.Γ} {n : Nat} {v : Value} (hR : Rel T W O A E0 E st a w) (h : lenOf T st.mem p = some n) (hc : Conc T E (SB T W O A E st.mem w) w p v) : ∃ A cap, v = .slice A n cap := by
 unfold lenOf at h
 split at h
 ·simp only [Option.some.injEq] at h
  subst h
  cases hc
  exact ⟨_, _, rfl⟩
 ·simp only [Option.some.injEq] at h
  subst h
  cases hc with
  | sl0 => exact ⟨_, _, rfl⟩
  | sl => exact ⟨_, _, rfl⟩
 ·rename_i s
  split at h
  ·rename_i q e l hm
   simp only [Option.some.injEq] at h
   subst h
   cases hc
   have hb := hR.mem.blk s _ hm
   cases hb with
   | row _ _ _ g cap vs hg hf hh hs => exact ⟨_, _, hs⟩
   | nil _ _ hf hs => exact ⟨_, _, hs⟩
  ·rename_i q e l hm
   simp only [Option.some.injEq] at h
   subst h
   cases hc
   have hb := hR.mem.blk s _ hm
   cases hb with
   | cold _ _ _ hcl =>
    generalize hv : E.σ s = v at hcl
    cases hcl with
    | sl0 => exact ⟨_, _, rfl⟩
    | sl => exact ⟨_, _, rfl⟩
  ·cases h
 ·cases h
theorem map_one {a : Act} {c : Call} {x : Operand} (h : c.args.toList = [x]) : c.args.map a.eval = #[a.eval x] := by
 have : c.args = #[x] := by rw [← Array.toArray_toList (xs := c.args), h]
 rw [this, List.map_toArray]
 rfl
theorem map_two {a : Act} {c : Call} {x y : Operand} (h : c.args.toList = [x, y]) : c.args.map a.eval = #[a.eval x, a.eval y] := by
 have : c.args = #[x, y] := by rw [← Array.toArray_toList (xs := c.args), h]
 rw [this, List.map_toArray]
 rfl
theorem len_ok (hT : TabOk T P) (S : FuncId → Option (FnS T.Γ)) (o : Oper) (c : Call) (ho : o.op = .call c) (hcal : c.callee = .builtin .len) : ValOk T P S o := by
 intro W O A E0 k st E a w v mc hR h
 simp only [evalD, ho, hcal] at h
 split at h
 ·rename_i x hx
  split at h
  ·rename_i p hp
   have hc := eval_conc hR hp
   have hm := map_one (a := a) hx
   generalize hv : a.eval x = vx at hc
   cases hc with
   | t hc =>
   cases hc with
   | cell hc =>
   split at h
   ·rename_i n hn
    split at h
    ·rename_i e he
     simp only [Option.some.injEq, Prod.mk.injEq] at h
     obtain ⟨rfl, rfl⟩ := h
     obtain ⟨A, cap, rfl⟩ := lenOf_conc hR hn hc
     refine ⟨rfl, goInt n, builtin_run (P := P) (w := w) (s := Builtin.len_ c.argTypes o.type (c.args.map a.eval)) ho hcal (fun _ => rfl) ?_, .t (.cell (.c _))⟩
     rw [hm, hv]
     cases ht : c.argTypes[0]? with
     | none => rw [ht] at he; cases he
     | some t =>
      rw [ht] at he
      have he : T.und t = some (.slice e) := he
      unfold Builtin.len_
      simp only [ht]
      show (underlying t >>= _).run P w = _
      rw [Sem.run_bind, run_underlying (hT.und _ _ he), Result.andThen_ok]
      rfl
    ·cases h
   ·split at h
    ·rename_i u hu
     have e1 : vx = u := toTV_conc _ u vx hu (.cell hc)
     obtain ⟨hmc, z, hz, hzc⟩ := sem_ok (E := E) (w := w) (B := SB T W O A E st.mem w) h
     refine ⟨hmc, z, builtin_run (P := P) (w := w) (s := Builtin.len_ c.argTypes o.type (c.args.map a.eval)) ho hcal (fun _ => rfl) ?_, hzc⟩
     rw [hm, hv, e1]
     exact hz
    ·cases h
  ·cases h
 ·cases h
theorem allValues_conc {st : St T.Γ} {a : Act} (hR : Rel T W O A E0 E st a w) : ∀ (xs : List Operand) (us : List Value), allValues st.eval xs = some us → xs.map a.eval = us := by
 intro xs
 induction xs with
 | nil => intro us h; simp only [allValues, Option.some.injEq] at h; subst h; rfl
 | cons x r ih =>
  intro us h
  simp only [allValues] at h
  split at h
  ·rename_i u hu
   cases hq : allValues st.eval r with
   | none => rw [hq] at h; cases h
   | some l =>
    rw [hq] at h
    simp only [Option.map_some, Option.some.injEq] at h
    subst h
    rw [List.map_cons, ih l hq, bind_toValue hR hu]
  ·cases h
theorem args_all {a : Act} {c : Call} {us : List Value} (h : c.args.toList.map a.eval = us) : c.args.map a.eval = us.toArray := by
 rw [← h, ← List.map_toArray, Array.toArray_toList]
theorem max_ok (S : FuncId → Option (FnS T.Γ)) (o : Oper) (c : Call) (ho : o.op = .call c) (hcal : c.callee = .builtin .max) : ValOk T P S o := by
 intro W O A E0 k st E a w v mc hR h
 simp only [evalD, ho, hcal] at h
 split at h
 ·rename_i k1 n1 k2 n2 hu
  simp only [Option.some.injEq, Prod.mk.injEq] at h
  obtain ⟨rfl, rfl⟩ := h
  refine ⟨rfl, _, builtin_run (P := P) (w := w) (s := Builtin.max_ c.argTypes o.type (c.args.map a.eval)) ho hcal (fun _ => rfl) ?_, .t (.cell (.c _))⟩
  rw [args_all (allValues_conc hR _ _ hu)]
  rfl
 ·rename_i us hu
  obtain ⟨hmc, z, hz, hzc⟩ := sem_ok (E := E) (w := w) (B := SB T W O A E st.mem w) h
  refine ⟨hmc, z, builtin_run (P := P) (w := w) (s := Builtin.max_ c.argTypes o.type (c.args.map a.eval)) ho hcal (fun _ => rfl) ?_, hzc⟩
  rw [args_all (allValues_conc hR _ _ hu)]
  exact hz
 ·cases h
theorem min_ok (S : FuncId → Option (FnS T.Γ)) (o : Oper) (c : Call) (ho : o.op = .call c) (hcal : c.callee = .builtin .min) : ValOk T P S o := by
 intro W O A E0 k st E a w v mc hR h
 simp only [evalD, ho, hcal] at h
 split at h
 ·rename_i k1 n1 k2 n2 hu
  simp only [Option.some.injEq, Prod.mk.injEq] at h
  obtain ⟨rfl, rfl⟩ := h
  refine ⟨rfl, _, builtin_run (P := P) (w := w) (s := Builtin.min_ c.argTypes o.type (c.args.map a.eval)) ho hcal (fun _ => rfl) ?_, .t (.cell (.c _))⟩
  rw [args_all (allValues_conc hR _ _ hu)]
  rfl
 ·rename_i us hu
  obtain ⟨hmc, z, hz, hzc⟩ := sem_ok (E := E) (w := w) (B := SB T W O A E st.mem w) h
  refine ⟨hmc, z, builtin_run (P := P) (w := w) (s := Builtin.min_ c.argTypes o.type (c.args.map a.eval)) ho hcal (fun _ => rfl) ?_, hzc⟩
  rw [args_all (allValues_conc hR _ _ hu)]
  exact hz
 ·cases h
theorem flat_part {f : Field} {i : Nat} {cs : Array Value} {v : Value} {d : TypeDesc} (hT : TabOk T P) (hd : T.und f.type = some d) (hr : d.isRow = false) (ho : f.offset = i) (hv : cs.toList[i]? = some v) :
  (part f.type cs f.offset).run P w = .ok v w := by
 have hagg : (Go.isAgg f.type).run P w = .ok false w := by
  unfold Go.isAgg
  rw [Sem.run_bind, run_underlying (hT.und _ _ hd) w]
  cases d <;> simp_all
 unfold part
 rw [Sem.run_bind, hagg, Result.andThen_ok, if_neg (by decide), ho]
 rw [Array.getElem?_toList] at hv
 rw [hv]
 rfl
theorem eqOne_run (hT : TabOk T P) {i : Nat} {f : Field} {x y : Value} {c : Bool} (d : Nat) (h : eqOne T i f x y = some c) :
  f.offset = i ∧ f.name ≠ "_" ∧ (∃ dd, T.und f.type = some dd ∧ dd.isRow = false) ∧ (Op.equalIn (d + 1) f.type x y).run P w = .ok c w := by
 unfold eqOne at h
 split at h
 ·rename_i hb
  simp only [Bool.and_eq_true, beq_iff_eq, Bool.not_eq_true', beq_eq_false_iff_ne, ne_eq] at hb
  refine ⟨hb.1, hb.2, ?_⟩
  split at h
  ·rename_i hu
   split at h
   ·rename_i hk
    have hk := kindEq_eq hk
    subst hk
    simp only [Option.some.injEq] at h
    subst h
    refine ⟨⟨_, hu, rfl⟩, ?_⟩
    simp only [Op.equalIn, Sem.run_bind, run_underlying (hT.und _ _ hu), Result.andThen_ok]
    rw [if_pos trivial]
    rfl
   ·cases h
  ·rename_i hu
   simp only [Option.some.injEq] at h
   subst h
   refine ⟨⟨_, hu, rfl⟩, ?_⟩
   simp only [Op.equalIn, Sem.run_bind, run_underlying (hT.und _ _ hu), Result.andThen_ok]
   rfl
  ·cases h
 ·cases h
theorem eqFields_run (hT : TabOk T P) (d : Nat) (xs ys : Array Value) : ∀ (fs : List Field) (i : Nat) (b : Bool),
  eqFields T i fs (xs.toList.drop i) (ys.toList.drop i) = some b → (Op.eqFields (d + 1) xs ys fs).run P w = .ok b w := by
 intro fs
 induction fs with
 | nil => intro i b h; simp [eqFields] at h
 | cons f r ih =>
  intro i b he
  cases hx : xs.toList.drop i with
  | nil => rw [hx] at he; simp [eqFields] at he
  | cons x rx =>
  cases hy : ys.toList.drop i with
  | nil => rw [hx, hy] at he; simp [eqFields] at he
  | cons y ry =>
  rw [hx, hy] at he
  have at0 : ∀ {zs : Array Value} {z : Value} {rz : List Value}, zs.toList.drop i = z :: rz → zs.toList[i]? = some z ∧ zs.toList.drop (i + 1) = rz := by
   intro zs z rz h
   have hi : i < zs.toList.length := by
    rcases Nat.lt_or_ge i zs.toList.length with h' | h'
    ·exact h'
    ·rw [List.drop_eq_nil_of_le h'] at h; cases h
   rw [List.drop_eq_getElem_cons hi] at h
   simp only [List.cons.injEq] at h
   exact ⟨by rw [List.getElem?_eq_getElem hi, h.1], h.2⟩
  obtain ⟨hx2, hx3⟩ := at0 hx
  obtain ⟨hy2, hy3⟩ := at0 hy
  unfold eqFields at he
  split at he
  ·rename_i c hc
   obtain ⟨ho, hn, ⟨dd, hd, hrow⟩, hrun⟩ := eqOne_run (w := w) hT d hc
   have ha := flat_part (w := w) hT hd hrow ho hx2
   have hb := flat_part (w := w) hT hd hrow ho hy2
   have one : (Op.eqFields (d + 1) xs ys (f :: r)).run P w = if c = true then (Op.eqFields (d + 1) xs ys r).run P w else .ok false w := by
    rw [Op.eqFields]
    simp only [if_pos hn, Sem.run_bind, ha, hb, hrun, Result.andThen_ok]
    cases c <;> simp
   rw [one]
   split at he
   ·simp only [Option.some.injEq] at he
    subst he
    cases c with
    | false => rfl
    | true => simp [Op.eqFields]
   ·cases hq : eqFields T (i + 1) r rx ry with
    | none => rw [hq] at he; cases he
    | some b' =>
     rw [hq] at he
     simp only [Option.map_some, Option.some.injEq] at he
     subst he
     cases c with
     | false => rfl
     | true =>
      rw [if_pos rfl]
      simpa using ih (i + 1) b' (by rw [hx3, hy3]; exact hq)
  ·cases he
theorem eqFields_flat (hT : TabOk T P) : ∀ (fs : List Field) (i : Nat) (xs ys : List Value) (b : Bool), eqFields T i fs xs ys = some b → ∀ f ∈ fs, ∃ d, T.und f.type = some d ∧ ((∃ k, d = .int k) ∨ d = .bool) := by
 intro fs
 induction fs with
 | nil => intro i xs ys b h f hf; cases hf
 | cons f r ih =>
  intro i xs ys b h g hg
  cases xs with
  | nil => simp [eqFields] at h
  | cons x rx =>
  cases ys with
  | nil => simp [eqFields] at h
  | cons y ry =>
  unfold eqFields at h
  split at h
  ·rename_i c hc
   have h0 : ∃ d, T.und f.type = some d ∧ ((∃ k, d = .int k) ∨ d = .bool) := by
    unfold eqOne at hc
    split at hc
    ·split at hc
     ·exact ⟨_, ‹_›, .inl ⟨_, rfl⟩⟩
     ·exact ⟨_, ‹_›, .inr rfl⟩
     ·cases hc
    ·cases hc
   split at h
   ·cases hg with
    | head => exact h0
    | tail _ hg => cases hg
   ·cases hq : eqFields T (i + 1) r rx ry with
    | none => rw [hq] at h; cases h
    | some b' =>
     cases hg with
     | head => exact h0
     | tail _ hg => exact ih (i + 1) rx ry b' hq g hg
  ·cases h
theorem eqStruct_run (hT : TabOk T P) {t : TypeId} {xs ys : Array Value} {b : Bool} (h : eqStruct T P t xs.toList ys.toList = some b) :
  (Op.equal t (.agg xs) (.agg ys)).run P w = .ok b w ∧ ∀ (op : BinOp) (x y : Operand), (eqGuard op t x y (.agg xs) (.agg ys)).run P w = .ok () w := by
 unfold eqStruct at h
 split at h
 ·rename_i fs hu hs
  have hu' := hT.und _ _ hu
  have hf : P.fieldsOf t = fs := by simp [Program.fieldsOf, hu']
  refine ⟨?_, fun op x y => run_eqGuard_agg w op t x y xs ys ?_⟩
  ·unfold Op.equal Op.maxDepth
   rw [run_equalIn_struct (P := P) w 9999 t xs ys (by rw [hf]; exact hu') hs, hf]
   exact eqFields_run hT 9998 xs ys fs.toList 0 b h
  ·obtain ⟨d, hd⟩ : ∃ d, P.depth = d + 2 := ⟨P.depth - 2, by have := hT.depth; omega⟩
   rw [hd]
   simp only [Program.eqGuardType, hu']
   rw [Array.any_eq_false']
   intro f hf
   obtain ⟨dd, h1, h2⟩ := eqFields_flat hT fs.toList 0 _ _ b h f (by simpa using hf)
   rw [hT.und _ _ h1]
   rcases h2 with ⟨k, rfl⟩ | rfl <;> simp
 ·cases h
theorem binOp_ok (hT : TabOk T P) (S : FuncId → Option (FnS T.Γ)) (o : Oper) (op : BinOp) (t t2 : TypeId) (x y : Operand) (ho : o.op = .binOp op t x y t2) : ValOk T P S o := by
 intro W O A E0 k st E a w v mc hR h
 simp only [evalD, ho] at h
 split at h
 ·rename_i u1 u2 h1 h2
  have e1 := bind_toValue hR h1
  have e2 := bind_toValue hR h2
  have key : ∀ z : Value, (do eqGuard op t x y u1 u2; Go.binOp op t u1 u2 : Sem Value).run P w = .ok z w → (execOp a.eval o).run P w = .ok (.value z) w := by
   intro z hz
   simp only [execOp, ho]
   rw [e1, e2]
   exact bind_value (a := a) hz
  have ret : ∀ z : Value, (do eqGuard op t x y u1 u2; Go.binOp op t u1 u2 : Sem Value).run P w = .ok z w → some (AV.t (TV.cell (CV.c z)), (MC.no : MC T.Γ)) = some (v, mc) →
    mc.sets = [] ∧ ∃ x, (execOp a.eval o).run P w = .ok (.value x) w ∧ ConcA T E (SB T W O A E st.mem w) w v x := by
   intro z hz he
   simp only [Option.some.injEq, Prod.mk.injEq] at he
   obtain ⟨rfl, rfl⟩ := he
   exact ⟨rfl, z, key z hz, .t (.cell (.c _))⟩
  split at h
  ·rename_i k1 n1 k2 n2
   split at h
   ·rename_i hk
    have hk := kindEq_eq hk
    subst hk
    rcases br_some h with ⟨_, h'⟩ | ⟨hb, h'⟩
    ·cases h'
    ·refine ret _ ?_ h'
     simp only [eqGuard, Go.binOp, Op.intDiv, if_neg hb, Sem.run_bind]
     simp [Sem.run_bind]
   ·cases h
  ·rename_i k1 n1 k2 n2
   split at h
   ·rename_i hk
    have hk := kindEq_eq hk
    subst hk
    rcases br_some h with ⟨_, h'⟩ | ⟨hb, h'⟩
    ·cases h'
    ·refine ret _ ?_ h'
     simp only [eqGuard, Go.binOp, Op.intDiv, if_neg hb, Sem.run_bind]
     simp [Sem.run_bind]
   ·cases h
  ·rename_i k1 n1 k2 n2
   rcases br_some h with ⟨_, h'⟩ | ⟨hb, h'⟩
   ·cases h'
   ·refine ret _ ?_ h'
    simp only [eqGuard, Go.binOp, Op.shift, if_neg hb, Sem.run_bind]
    simp [Sem.run_bind]
  ·rename_i k1 n1 k2 n2
   rcases br_some h with ⟨_, h'⟩ | ⟨hb, h'⟩
   ·cases h'
   ·refine ret _ ?_ h'
    simp only [eqGuard, Go.binOp, Op.shift, if_neg hb, Sem.run_bind]
    simp [Sem.run_bind]
  ·rename_i k1 n1 k2 n2
   split at h
   ·rename_i hk
    have hk := kindEq_eq hk
    subst hk
    refine ret _ ?_ h
    simp only [eqGuard, Go.binOp, intBits_and, Sem.run_bind]
    simp [Sem.run_bind]
   ·cases h
  ·rename_i k1 n1 k2 n2
   split at h
   ·rename_i hk
    have hk := kindEq_eq hk
    subst hk
    refine ret _ ?_ h
    simp only [eqGuard, Go.binOp, intBits_or, Sem.run_bind]
    simp [Sem.run_bind]
   ·cases h
  ·rename_i k1 n1 k2 n2
   split at h
   ·rename_i hk
    have hk := kindEq_eq hk
    subst hk
    refine ret _ ?_ h
    simp only [eqGuard, Go.binOp, intBits_xor, Sem.run_bind]
    simp [Sem.run_bind]
   ·cases h
  ·rename_i k1 n1 k2 n2
   split at h
   ·rename_i hk
    have hk := kindEq_eq hk
    subst hk
    refine ret _ ?_ h
    simp only [eqGuard, Go.binOp, intBits_andNot, Sem.run_bind]
    simp [Sem.run_bind]
   ·cases h
  ·rename_i xs ys
   split at h
   ·rename_i b hb
    obtain ⟨r1, r2⟩ := eqStruct_run (w := w) hT hb
    refine ret _ ?_ h
    rw [Sem.run_bind, r2, Result.andThen_ok]
    simp only [Go.binOp, Sem.run_bind, r1, Result.andThen_ok, Sem.run_pure]
   ·cases h
  ·rename_i xs ys
   split at h
   ·rename_i b hb
    obtain ⟨r1, r2⟩ := eqStruct_run (w := w) hT hb
    refine ret _ ?_ h
    rw [Sem.run_bind, r2, Result.andThen_ok]
    simp only [Go.binOp, Sem.run_bind, r1, Result.andThen_ok, Sem.run_pure]
   ·cases h
  ·obtain ⟨hm, z, hz, hc⟩ := sem_ok (E := E) (w := w) (B := SB T W O A E st.mem w) h
   exact ⟨hm, z, key z hz, hc⟩
 ·cases h
theorem intsOf_get {k : IntKind} : ∀ (vs : List Value) (l : List Int), intsOf k vs = some l → l.length = vs.length ∧ ∀ (i : Nat), i < l.length → vs[i]? = some (.int k (l.getD i 0)) := by
 intro vs
 induction vs with
 | nil => intro l h; simp only [intsOf, Option.some.injEq] at h; subst h; exact ⟨rfl, fun i hi => by simp at hi⟩
 | cons v r ih =>
  intro l h
  cases v with
  | int k' n =>
   simp only [intsOf] at h
   split at h
   ·rename_i hk
    have hk := kindEq_eq hk
    subst hk
    cases hq : intsOf k r with
    | none => rw [hq] at h; cases h
    | some l2 =>
     rw [hq] at h
     simp only [Option.map_some, Option.some.injEq] at h
     subst h
     obtain ⟨i1, i2⟩ := ih l2 hq
     refine ⟨by simp [i1], fun i hi => ?_⟩
     cases i with
     | zero => rfl
     | succ i => simpa using i2 i (by simpa using hi)
   ·cases h
  | _ => simp [intsOf] at h
theorem bt_get {s : ByteArray} {i : Int} {b : UInt8} (h : s[i.toNat]? = some b) : bt s i = (b.toNat : Int) := by
 unfold bt
 rw [h]
theorem index_ok (hT : TabOk T P) (S : FuncId → Option (FnS T.Γ)) (o : Oper) (t : TypeId) (x y : Operand) (ho : o.op = .index t x y) : ValOk T P S o := by
 intro W O A E0 k st E a w v mc hR h
 simp only [evalD, ho] at h
 split at h
 ·rename_i s k1 i hu h1 h2
  have e1 := bind_toValue hR h1
  have e2 := bind_toValue hR h2
  rcases br_some h with ⟨h0, h'⟩ | ⟨_, h'⟩
  ·rcases br_some h' with ⟨hi, h3⟩ | ⟨_, h3⟩
   ·simp only [Option.some.injEq, Prod.mk.injEq] at h3
    obtain ⟨rfl, rfl⟩ := h3
    refine ⟨rfl, _, ?_, .t (.cell (.c _))⟩
    simp only [execOp, ho]
    rw [e1, e2]
    refine bind_value (a := a) ?_
    have hlt : i.toNat < s.size := by omega
    have hg : s[i.toNat]? = some (s[i.toNat]'hlt) := getElem?_pos s i.toNat hlt
    simp only [Instr.index, asIntOf, Sem.run_bind, Sem.run_pure, Result.andThen_ok, run_underlying (hT.und _ _ hu), if_pos h0, hg, bt_get hg]
   ·cases h3
  ·cases h'
 ·rename_i len e cs k1 i hu h1 h2
  have e1 := bind_toValue hR h1
  have e2 := bind_toValue hR h2
  split at h
  ·rename_i k2 n r hcs
   split at h
   ·rename_i l kk hl hue hse hlen
    rcases br_some h with ⟨h0, h'⟩ | ⟨_, h'⟩
    ·rcases br_some h' with ⟨hi, h3⟩ | ⟨_, h3⟩
     ·simp only [Option.some.injEq, Prod.mk.injEq] at h3
      obtain ⟨rfl, rfl⟩ := h3
      refine ⟨rfl, _, ?_, .t (.cell (.c _))⟩
      simp only [execOp, ho]
      rw [e1, e2]
      refine bind_value (a := a) ?_
      obtain ⟨g1, g2⟩ := intsOf_get _ _ hl
      have hsz : len = cs.size := by simpa using hlen
      have hlt : i.toNat < l.length := by
       rw [g1, ← hcs]
       simp
       omega
      have hget : cs[i.toNat]? = some (.int k2 (l.getD i.toNat 0)) := by
       rw [← Array.getElem?_toList, hcs]
       exact g2 _ hlt
      have hagg : (Go.isAgg e).run P w = .ok false w := by
       unfold Go.isAgg
       rw [Sem.run_bind, run_underlying (hT.und _ _ hue) w]
       rfl
      simp only [Instr.index, asIntOf, Sem.run_bind, Sem.run_pure, Result.andThen_ok, run_underlying (hT.und _ _ hu), if_pos (And.intro h0 hi), sizeOf_run hT hse, part, hagg, Nat.mul_one]
      rw [if_neg (by decide), hget]
      rfl
     ·cases h3
    ·cases h'
   ·cases h
  ·cases h
 ·cases h
theorem bound_run {st : St T.Γ} {a : Act} (hR : Rel T W O A E0 E st a w) {x : Option Operand} {d : Nat} {n : Int} (h : bound T (d : Int) (x.map st.eval) = some n) :
  (x = none ∧ n = d) ∨ ∃ y k, x = some y ∧ a.eval y = .int k n := by
 cases x with
 | none => simp only [Option.map_none, bound, Option.some.injEq] at h; exact .inl ⟨rfl, h.symm⟩
 | some y =>
  simp only [Option.map_some] at h
  unfold bound at h
  split at h
  ·rename_i heq; cases heq
  ·rename_i k n' heq
   simp only [Option.some.injEq] at heq h
   subst h
   exact .inr ⟨y, k, rfl, eval_cell hR heq⟩
  ·cases h
theorem sliceBound_run {k : IntKind} {n : Int} {y : Nat} {code : BoundsCode} (h0 : 0 ≤ n) (h1 : n ≤ y) : (Instr.sliceBound (.int k n) y code).run P w = .ok n.toNat w := by
 unfold Instr.sliceBound
 simp only [asIntOf, Sem.run_bind, Sem.run_pure, Result.andThen_ok]
 rw [if_pos ⟨h0, h1⟩]
 rfl
theorem sliceBounds_run {st : St T.Γ} {a : Act} (hR : Rel T W O A E0 E st a w) {lo hi : Option Operand} {len cap : Nat} {x y : Int} (hl : bound T 0 (lo.map st.eval) = some x) (hh : bound T (len : Int) (hi.map st.eval) = some y)
  (h0 : 0 ≤ x) (h1 : x ≤ y) (h2 : y ≤ len) (hc : len ≤ cap) : (Instr.sliceBounds true len cap (lo.map a.eval) (hi.map a.eval) none).run P w = .ok (x.toNat, y.toNat, cap) w := by
 have sl : ∀ (k : IntKind) (code : BoundsCode), (Instr.sliceBound (.int k x) y.toNat code).run P w = .ok x.toNat w := fun k code => sliceBound_run h0 (by omega)
 have sl2 : ∀ (k : IntKind) (code : BoundsCode), (Instr.sliceBound (.int k x) len code).run P w = .ok x.toNat w := fun k code => sliceBound_run h0 (by omega)
 have sh : ∀ (k : IntKind) (code : BoundsCode), (Instr.sliceBound (.int k y) cap code).run P w = .ok y.toNat w := fun k code => sliceBound_run (by omega) (by omega)
 rcases bound_run (d := 0) hR hl with ⟨rfl, rfl⟩ | ⟨z, k, rfl, hz⟩ <;> rcases bound_run (d := len) hR hh with ⟨rfl, rfl⟩ | ⟨z2, k2, rfl, hz2⟩
 ·simp [Instr.sliceBounds, Sem.run_bind]
 ·simp only [Option.map_some, Option.map_none, hz2, Instr.sliceBounds, Sem.run_bind, Sem.run_pure, Result.andThen_ok]
  simp [sh, Sem.run_bind]
 ·simp only [Option.map_some, Option.map_none, hz, Instr.sliceBounds, Sem.run_bind, Sem.run_pure, Result.andThen_ok]
  simp [sl2, Sem.run_bind]
 ·simp only [Option.map_some, Option.map_none, hz, hz2, Instr.sliceBounds, Sem.run_bind, Sem.run_pure, Result.andThen_ok]
  simp [sh, sl, Sem.run_bind]
theorem sl_part (hT : TabOk T P) {p : Pv} {e : TypeId} {l : List (T.Γ.el e).ty} {g off cap : Nat} {x y : Nat} (hs : Conc T E B w (.sl p e l) (.slice (some ⟨g, off, none⟩) l.length cap)) (hxy : x ≤ y) (hy : y ≤ l.length) (hB : l ≠ [] → True) :
  Conc T E B w (.sl p e ((l.take y).drop x)) (.slice (if cap = x then some ⟨g, off, none⟩ else some ⟨g, off + x * (T.Γ.el e).n, none⟩) (y - x) (cap - x)) := by
 by_cases hxy0 : x = y
 ·subst hxy0
  have : (l.take x).drop x = [] := List.drop_eq_nil_of_le (by rw [List.length_take]; omega)
  rw [this, Nat.sub_self]
  exact .sl0 _ _ _ _
 ·have hlen : ((l.take y).drop x).length = y - x := by rw [List.length_drop, List.length_take]; omega
  have hl0 : l ≠ [] := fun h => by subst h; simp at hy; omega
  generalize hv : Value.slice (some ⟨g, off, none⟩) l.length cap = v at hs
  cases hs with
  | sl0 => exact absurd rfl hl0
  | sl _ _ _ g' off' cap' f hcap hB hy2 hz =>
   simp only [Value.slice.injEq, Option.some.injEq, Addr.mk.injEq] at hv
   obtain ⟨⟨rfl, rfl, _⟩, _, rfl⟩ := hv
   rw [if_neg (by omega), ← hlen]
   have key : ∀ i (hi : i < ((l.take y).drop x).length), ∃ hi' : x + i < l.length, ((l.take y).drop x)[i] = l[x + i] := by
    intro i hi
    have h2 : x + i < l.length := by rw [hlen] at hi; omega
    exact ⟨h2, by simp⟩
   refine .sl p e _ g _ _ (fun i j => f (x + i) j) (by rw [hlen]; omega) hB (fun i hi j cv hj => ?_) (fun i hi j cv hj => ?_)
   ·obtain ⟨h2, h3⟩ := key i hi
    rw [h3] at hj
    have := hy2 (x + i) h2 j cv hj
    rw [← this]
    congr 2
    rw [Nat.add_mul]
    omega
   ·obtain ⟨h2, h3⟩ := key i hi
    rw [h3] at hj
    exact hz (x + i) h2 j cv hj
theorem slice_run (hT : TabOk T P) {st : St T.Γ} {a : Act} (hR : Rel T W O A E0 E st a w) {t e : TypeId} {lo hi : Option Operand} {len cap : Nat} {Ad : Option Addr} {x y : Int} (hu : T.und t = some (.slice e)) {n : Nat} (hn : T.size e = some n)
  (hl : bound T 0 (lo.map st.eval) = some x) (hh : bound T (len : Int) (hi.map st.eval) = some y)
  (h0 : 0 ≤ x) (h1 : x ≤ y) (h2 : y ≤ len) (hc : len ≤ cap) : (Instr.slice t (.slice Ad len cap) (lo.map a.eval) (hi.map a.eval) none).run P w =
   .ok (.slice (if cap = x.toNat then Ad else Ad.map (·.add (x.toNat * n))) (y.toNat - x.toNat) (cap - x.toNat)) w := by
 unfold Instr.slice
 rw [Sem.run_bind, run_underlying (hT.und _ _ hu), Result.andThen_ok]
 simp only [Sem.run_bind, sliceBounds_run hR hl hh h0 h1 h2 hc, Result.andThen_ok, sizeOf_run hT hn, Sem.run_pure]
end
end Go.Proofs.YtbbpcbjgekencaaGreatDoor.Ev
end
section
set_option linter.unusedVariables false
set_option linter.unusedSimpArgs false
set_option linter.unusedVariables false
namespace Go.Proofs.YtbbpcbjgekencaaGreatDoor.Ev
open Go Go.RowKit
section
variable {T : Tab} {P : Program} {W : World} {O A : Nat → Prop} {E0 : Env} {E E' : Env} {B B' : Pv → Nat → Prop} {w w' : World}
theorem row_sl (hT : TabOk T P) {s : Nat} {q : Bool} {e : TypeId} {l : List (T.Γ.el e).ty} {p : Pv} (hb : BlkOk T E B w s (.row q e l)) (hp : ∀ g, E.φ s g → g < w.heap.size → B p g) (hq : ∀ g, B (pvOf q) g → B p g) : Conc T E B w (.sl p e l) (E.σ s) := by
 cases hb with
 | row _ _ _ g cap vs hg hf hh hs hc hv h =>
  rw [hs]
  have key : ∀ i (hi : i < l.length) (j : Nat) cv, (cellsQ T p e l[i])[j]? = some cv → ∃ cv0, (cellsQ T (pvOf q) e l[i])[j]? = some cv0 ∧ cv = CV.tr id (fun _ => p) cv0 := by
   intro i hi j cv hj
   have this : cellsQ T p e l[i] = (cellsQ T (pvOf q) e l[i]).map (CV.tr id fun _ => p) := cellsQ_tr hT.stable id (fun _ => p) (pvOf q) e l[i]
   rw [this, List.getElem?_map] at hj
   cases hx : (cellsQ T (pvOf q) e l[i])[j]? with
   | none => rw [hx] at hj; cases hj
   | some cv0 => rw [hx] at hj; simp only [Option.map_some, Option.some.injEq] at hj; exact ⟨cv0, rfl, hj.symm⟩
  refine .sl p e l g 0 cap (fun i j => vs.getD (i * (T.Γ.el e).n + j) undef) hc (hp g ((hf g).mpr rfl) (lt_size hh)) (fun i hi j cv hj => ?_) (fun i hi j cv hj => ?_)
  ·obtain ⟨cv0, h1, h2⟩ := key i hi j cv hj
   obtain ⟨y, hy, hz⟩ := h i hi j cv0 h1
   simp only [World.cell?, hh, Nat.zero_add]
   simp [hy]
  ·obtain ⟨cv0, h1, rfl⟩ := key i hi j cv hj
   obtain ⟨y, hy, hz⟩ := h i hi j cv0 h1
   simp only [Array.getD_eq_getD_getElem?, hy, Option.getD_some]
   refine hz.tr hT.stable ⟨fun s _ => ⟨rfl, rfl⟩, fun p' hp' g hg => ⟨?_, fun o u hu => hu⟩⟩
   rcases cell_form hT.stable (List.mem_of_getElem? h1) with ⟨v, rfl⟩ | ⟨e', l', rfl⟩
   ·simp [CV.pv] at hp'
   ·simp only [CV.pv, Option.some.injEq] at hp'
    subst hp'
    exact hq g hg
 | nil _ _ hf hs => rw [hs]; exact .sl0 _ _ _ _
theorem near_far {N F : Nat → Prop} {m : Mem T.Γ} {g : Nat} (h : Stb N F E m w .near g) : Stb N F E m w .far g := ⟨h.1, h.2.1, .inl h.2.2⟩
theorem far_mix {N F : Nat → Prop} {m : Mem T.Γ} {g s : Nat} (h : Stb N F E m w .far g) : Stb N F E m w (.mix s) g := ⟨h.1, .inl ⟨h.2.1, h.2.2⟩⟩
theorem near_of {N F : Nat → Prop} {m : Mem T.Γ} {g s : Nat} (h : Stb N F E m w .near g) : Stb N F E m w (.of s) g := ⟨h.1, .inl ⟨h.2.1, h.2.2⟩⟩
theorem sliceL_spec (hT : TabOk T P) {st : St T.Γ} {a : Act} (hR : Rel T W O A E0 E st a w) {t e : TypeId} {lo hi : Option Operand} {p : Pv} {l : List (T.Γ.el e).ty} {vx : Value} {r : CV T.Γ} (hu : T.und t = some (.slice e)) (hs : T.std e = true)
  (hc : Conc T E B w (.sl p e l) vx) (h : sliceL T p l (lo.map st.eval) (hi.map st.eval) some = some r) :
  ∃ z, (Instr.slice t vx (lo.map a.eval) (hi.map a.eval) none).run P w = .ok z w ∧ Conc T E B w r z := by
 unfold sliceL at h
 split at h
 ·rename_i x y hl hh
  rcases br_some h with ⟨h0, h'⟩ | ⟨_, h'⟩
  ·rcases br_some h' with ⟨h1, h2⟩ | ⟨_, h2⟩
   ·rcases br_some h2 with ⟨h3, h4⟩ | ⟨_, h4⟩
    ·simp only [Option.some.injEq] at h4
     subst h4
     have hsl : ∃ Ad cap, vx = .slice Ad l.length cap ∧ l.length ≤ cap ∨ ∃ Ad cap, vx = .slice Ad 0 cap ∧ l = [] := by
      generalize hk : (CV.sl p e l) = k at hc
      cases hc with
      | sl0 => simp only [CV.sl.injEq] at hk; obtain ⟨rfl, rfl, hl⟩ := hk; exact ⟨none, 0, .inr ⟨_, _, rfl, by simpa using hl⟩⟩
      | sl _ _ _ g off cap f hcap => simp only [CV.sl.injEq] at hk; obtain ⟨rfl, rfl, hl⟩ := hk; have := eq_of_heq hl; subst this; exact ⟨_, _, .inl ⟨rfl, hcap⟩⟩
      | _ => cases hk
     have empty : l = [] → ∃ z, (Instr.slice t vx (lo.map a.eval) (hi.map a.eval) none).run P w = .ok z w ∧ Conc T E B w (.sl p e ((l.take y.toNat).drop x.toNat)) z := by
      intro hl0
      subst hl0
      obtain ⟨Ad, cap, rfl⟩ : ∃ Ad cap, vx = .slice Ad 0 cap := by
       obtain ⟨Ad, cap, h | ⟨Ad, cap, h, _⟩⟩ := hsl
       ·exact ⟨Ad, cap, h.1⟩
       ·exact ⟨Ad, cap, h⟩
      refine ⟨_, slice_run hT hR hu (hT.std e hs).1 hl hh h0 h1 h3 (Nat.zero_le _), ?_⟩
      simp only [List.length_nil] at h3
      have hy0 : y = 0 := by simp at h3; omega
      have hx0 : x = 0 := by omega
      subst hy0; subst hx0
      simp only [List.take_nil, List.drop_nil]
      exact .sl0 _ _ _ _
     obtain ⟨Ad, cap, ⟨hv, hcap⟩ | ⟨_, _, _, hl0⟩⟩ := hsl
     ·by_cases hl0 : l = []
      ·exact empty hl0
      ·subst hv
       refine ⟨_, slice_run hT hR hu (hT.std e hs).1 hl hh h0 h1 h3 hcap, ?_⟩
       have hAd : ∃ g off, Ad = some ⟨g, off, none⟩ := by
        generalize hk : (CV.sl p e l) = k at hc
        generalize hv2 : Value.slice Ad l.length cap = v2 at hc
        cases hc with
        | sl0 => simp only [CV.sl.injEq] at hk; obtain ⟨rfl, rfl, hl⟩ := hk; exact absurd (eq_of_heq hl) hl0
        | sl _ _ _ g off cap f hcap => simp only [Value.slice.injEq] at hv2; exact ⟨g, off, hv2.1⟩
        | _ => cases hk
       obtain ⟨g, off, rfl⟩ := hAd
       have := sl_part (x := x.toNat) (y := y.toNat) hT hc (by omega) (by omega) (fun _ => trivial)
       simp only [Option.map_some, Addr.add_mid]
       exact this
     ·exact empty hl0
    ·cases h4
   ·cases h2
  ·cases h'
 ·cases h
theorem sliceAt_run {t : TypeId} {d : TypeDesc} {x : Value} {lo hi mx : Option Value} (hu : P.underlying t = some d) (hd : ∀ n e, d ≠ .array n e) : (Instr.sliceAt t x lo hi mx).run P w = (Instr.slice t x lo hi mx).run P w := by
 unfold Instr.sliceAt
 rw [Sem.run_bind, run_underlying hu, Result.andThen_ok]
 cases d <;> first | rfl | exact absurd rfl (hd _ _)
theorem slice_ok (hT : TabOk T P) (S : FuncId → Option (FnS T.Γ)) (o : Oper) (t : TypeId) (x : Operand) (lo hi mx : Option Operand) (ho : o.op = .slice t x lo hi mx) : ValOk T P S o := by
 intro W O A E0 k st E a w v mc hR h
 cases mx with
 | some _ => simp [evalD, ho] at h
 | none =>
 simp only [evalD, ho] at h
 split at h
 ·rename_i elem p hu hp
  rw [sliceA_cps] at h
  cases hq : sliceA T st.mem elem p (lo.map st.eval) (hi.map st.eval) some with
  | none => rw [hq] at h; cases h
  | some r =>
   rw [hq] at h
   have h : some (AV.t (TV.cell r), (MC.no : MC T.Γ)) = some (v, mc) := h
   simp only [Option.some.injEq, Prod.mk.injEq] at h
   obtain ⟨rfl, rfl⟩ := h
   have hc := eval_conc hR hp
   generalize hv : a.eval x = vx at hc
   cases hc with
   | t hc =>
   cases hc with
   | cell hc =>
   have key : ∀ z, (Instr.slice t vx (lo.map a.eval) (hi.map a.eval) none).run P w = .ok z w → Conc T E (SB T W O A E st.mem w) w r z → (MC.no : MC T.Γ).sets = [] ∧ ∃ x, (execOp a.eval o).run P w = .ok (.value x) w ∧ ConcA T E (SB T W O A E st.mem w) w (.t (.cell r)) x := by
    intro z hz hzc
    refine ⟨rfl, z, ?_, .t (.cell hzc)⟩
    simp only [execOp, ho, Option.map_none]
    rw [hv]
    exact bind_value (a := a) ((sliceAt_run (hT.und _ _ hu) (fun _ _ => by simp)).trans hz)
   unfold sliceA at hq
   split at hq
   ·cases hc
    split at hq
    ·rename_i x y hl hh hsd
     rcases br_some hq with ⟨h0, h'⟩ | ⟨_, h'⟩
     ·rcases br_some h' with ⟨h1, h2⟩ | ⟨_, h2⟩
      ·rcases br_some h2 with ⟨h3, h4⟩ | ⟨_, h4⟩
       ·simp only [Option.some.injEq] at h4
        subst h4
        have hun := hT.und _ _ hu
        have hy0 : y = 0 := by omega
        have hx0 : x = 0 := by omega
        subst hy0; subst hx0
        -- the size is of no account
        refine key (.slice none 0 0) ?_ (.c _)
        have := slice_run (Ad := none) (len := 0) (cap := 0) hT hR hu (hT.std elem hsd).1 hl hh h0 h1 h3 (Nat.le_refl _)
        simpa using this
       ·cases h4
      ·cases h2
     ·cases h'
    ·cases hq
   ·split at hq
    ·rename_i hd
     obtain ⟨rfl, hs⟩ := std_elem hd
     obtain ⟨z, hz, hzc⟩ := sliceL_spec hT hR hu hs hc hq
     exact key z hz hzc
    ·cases hq
   ·rename_i s
    cases hc
    split at hq
    ·rename_i q e l hm
     split at hq
     ·rename_i hd
      obtain ⟨rfl, hs⟩ := std_elem hd
      have hsl : Conc T E (SB T W O A E st.mem w) w (.sl (viewOf q s) e l) (E.σ s) := row_sl (p := viewOf q s) hT (hR.mem.blk s _ hm) (fun g hg hlt => by cases q <;> exact ⟨hlt, .inr ⟨_, hm, rfl, hg⟩⟩) (fun g hg => by cases q; exact near_of hg; exact far_mix hg)
      obtain ⟨z, hz, hzc⟩ := sliceL_spec hT hR hu hs hsl hq
      exact key z hz hzc
     ·cases hq
    ·rename_i q e l hm
     split at hq
     ·rename_i hd
      obtain ⟨rfl, hs⟩ := std_elem hd
      have hb := hR.mem.blk s _ hm
      cases hb with
      | cold _ _ _ hcl =>
       obtain ⟨z, hz, hzc⟩ := sliceL_spec hT hR hu hs hcl hq
       exact key z hz hzc
     ·cases hq
    ·cases hq
   ·cases hq
 ·rename_i s hu hp
  have hc := eval_cell hR hp
  have key : ∀ (lo' hi' : Option Value), lo.map a.eval = lo' → hi.map a.eval = hi' → (match pureRun P (Instr.slice t (.string s) lo' hi' none) with
    | some u => match ofValue (Γ := T.Γ) u with
     | some b => some (b, MC.no)
     | none => none
    | none => none) = some (v, mc) → mc.sets = [] ∧ ∃ x, (execOp a.eval o).run P w = .ok (.value x) w ∧ ConcA T E (SB T W O A E st.mem w) w v x := by
   intro lo' hi' h1 h2 he
   obtain ⟨hm, z, hz, hzc⟩ := sem_ok (E := E) (w := w) (B := SB T W O A E st.mem w) he
   refine ⟨hm, z, ?_, hzc⟩
   simp only [execOp, ho, Option.map_none]
   rw [hc, h1, h2]
   exact bind_value (a := a) ((sliceAt_run (hT.und _ _ hu) (fun _ _ => by simp)).trans hz)
  have ev : ∀ {y : Option Operand} {u : Value}, y.map st.eval = some (some (.t (.cell (.c u)))) → y.map a.eval = some u := by
   intro y u hy
   cases y with
   | none => cases hy
   | some y => simp only [Option.map_some, Option.some.injEq] at hy ⊢; exact eval_cell hR hy
  have ev0 : ∀ {y : Option Operand}, y.map st.eval = none → y.map a.eval = none := by
   intro y hy
   cases y with
   | none => rfl
   | some y => cases hy
  split at h
  ·rename_i u1 u2 h1 h2; exact key _ _ (ev h1) (ev h2) h
  ·rename_i u2 h1 h2; exact key _ _ (ev0 h1) (ev h2) h
  ·rename_i u1 h1 h2; exact key _ _ (ev h1) (ev0 h2) h
  ·cases h
 ·cases h
end
end Go.Proofs.YtbbpcbjgekencaaGreatDoor.Ev
end
section
set_option linter.unusedVariables false
set_option linter.unusedSimpArgs false
set_option linter.unusedVariables false
namespace Go.Proofs.YtbbpcbjgekencaaGreatDoor.Ev
open Go Go.RowKit
section
variable {Γ : Sig}
def look (l : List (Nat × Option (Blk Γ))) (s : Nat) : Option (Option (Blk Γ)) := match l with
 | [] => none
 | (q, b) :: r => if q = s then some b else look r s
theorem get_upd (s : Nat) (b : Option (Blk Γ)) : ∀ (m : Mem Γ) (t : Nat), (m.upd s b).get t = if s = t then b else m.get t := by
 intro m
 induction m with
 | nil =>
  intro t
  cases b with
  | none => simp [Mem.upd, Mem.get]
  | some b =>
   simp only [Mem.upd, Mem.get]
   by_cases e : s = t
   ·subst e; simp
   ·rw [if_neg (by simpa using e), if_neg e]
 | cons p r ih =>
  obtain ⟨q, x⟩ := p
  intro t
  simp only [Mem.upd]
  cases hq : (q == s) with
  | true =>
   have hq := beq_iff_eq.mp hq
   subst hq
   cases b with
   | none =>
    simp only
    rw [ih]
    by_cases e : q = t
    ·subst e; simp
    ·simp only [Mem.get]; rw [if_neg e, if_neg e, if_neg (by simpa using e)]
   | some b =>
    simp only [Mem.get]
    by_cases e : q = t
    ·subst e; simp
    ·rw [if_neg (by simpa using e), if_neg e, if_neg (by simpa using e)]
  | false =>
   have hq : q ≠ s := by simpa using hq
   cases b with
   | none =>
    simp only [Mem.get]
    rw [ih]
    by_cases e : q = t
    ·subst e; rw [if_pos (by simp), if_neg (fun h => hq h.symm), if_pos (by simp)]
    ·have e2 : ¬ (q == t) = true := by simpa using e
     simp only [if_neg e2]
   | some b =>
    simp only
    by_cases hlt : s < q
    ·rw [if_pos hlt]
     simp only [Mem.get]
     by_cases e : s = t
     ·subst e; simp
     ·rw [if_neg (by simpa using e), if_neg e]
    ·rw [if_neg hlt]
     simp only [Mem.get]
     rw [ih]
     by_cases e : q = t
     ·subst e; rw [if_pos (by simp), if_neg (fun h => hq h.symm), if_pos (by simp)]
     ·have e2 : ¬ (q == t) = true := by simpa using e
      simp only [if_neg e2]
theorem get_sets (m : Mem Γ) : ∀ (l : List (Nat × Option (Blk Γ))) (s : Nat), (m.sets l).get s = (match look l s with | some b => b | none => m.get s) := by
 intro l
 induction l with
 | nil => intro s; rfl
 | cons p r ih =>
  obtain ⟨q, b⟩ := p
  intro s
  simp only [Mem.sets, look]
  rw [get_upd]
  by_cases e : q = s
  ·rw [if_pos e, if_pos e]
  ·rw [if_neg e, if_neg e]; exact ih s
theorem meets_false {l ws : List Nat} (h : meets l ws = false) : ∀ s ∈ l, s ∉ ws := by
 induction l with
 | nil => intro s h; cases h
 | cons q r ih =>
  intro s hs hw
  simp only [meets, Bool.or_eq_false_iff] at h
  cases hs with
  | head => rw [elem_iff.mpr hw] at h; cases h.1
  | tail _ hs => exact ih h.2 s hs hw
theorem memViews_mem {m : Mem Γ} {s : Nat} {b : Blk Γ} (h : m.get s = some b) : ∀ t ∈ b.views, t ∈ memViews m := by
 induction m with
 | nil => cases h
 | cons p r ih =>
  obtain ⟨q, x⟩ := p
  intro t ht
  simp only [memViews, List.mem_append]
  simp only [Mem.get] at h
  split at h
  ·cases h; exact .inl ht
  ·exact .inr (ih h t ht)
theorem forget_get (ws : List Nat) : ∀ (l : List (Option (AV Γ))) (t : Nat) v, (forget ws l)[t]? = some (some v) → l[t]? = some (some v) ∧ meets v.views ws = false := by
 intro l
 induction l with
 | nil => intro t v h; simp [forget] at h
 | cons x r ih =>
  intro t v h
  cases x with
  | none =>
   simp only [forget] at h
   cases t with
   | zero => simp at h
   | succ t => simp only [List.getElem?_cons_succ] at h ⊢; exact ih t v h
  | some u =>
   simp only [forget] at h
   cases t with
   | zero =>
    simp only [List.getElem?_cons_zero, Option.some.injEq] at h
    split at h
    ·cases h
    ·rename_i hm
     simp only [Option.some.injEq] at h
     subst h
     exact ⟨rfl, hm⟩
   | succ t => simp only [List.getElem?_cons_succ] at h ⊢; exact ih t v h
theorem forget_length (ws : List Nat) : ∀ (l : List (Option (AV Γ))), (forget ws l).length = l.length := by
 intro l
 induction l with
 | nil => rfl
 | cons x r ih => cases x <;> simp [forget, ih]
theorem get_mem {m : Mem Γ} {s : Nat} {b : Blk Γ} (h : m.get s = some b) : (s, b) ∈ m := by
 induction m with
 | nil => cases h
 | cons p r ih =>
  obtain ⟨q, x⟩ := p
  simp only [Mem.get] at h
  split at h
  ·rename_i e
   cases h
   have := beq_iff_eq.mp e
   subst this
   exact List.mem_cons_self
  ·exact List.mem_cons_of_mem _ (ih h)
theorem free_spec {st : St Γ} {d : Nat} (h : st.free d = true) : st.pins ≤ d ∧ st.mem.get d = none ∧ (∀ (t : Nat) v, st.tmps[t]? = some (some v) → d ∉ v.sites) ∧ ∀ s b, st.mem.get s = some b → d ∉ b.sites := by
 unfold St.free at h
 simp only [Bool.and_eq_true, List.all_eq_true] at h
 obtain ⟨⟨h0, h1⟩, h2⟩ := h
 refine ⟨by simpa using h0, ?_, fun t v hv => ?_, fun s b hb => ?_⟩
 ·cases hg : st.mem.get d with
  | none => rfl
  | some b =>
   have := h2 _ (get_mem hg)
   simp at this
 ·have := h1 _ (List.mem_of_getElem? hv)
  simpa using this
 ·have := h2 _ (get_mem hb)
  simp only [Bool.and_eq_true, Bool.not_eq_true'] at this
  intro hm
  rw [elem_iff.mpr hm] at this
  cases this.2
theorem freeAll_spec {st : St Γ} : ∀ {l : List Nat}, st.freeAll l = true → l.Nodup ∧ ∀ d ∈ l, st.free d = true := by
 intro l
 induction l with
 | nil => intro _; exact ⟨List.nodup_nil, fun d h => by cases h⟩
 | cons q r ih =>
  intro h
  simp only [St.freeAll] at h
  split at h
  ·rename_i hq
   simp only [Bool.and_eq_true, Bool.not_eq_true'] at hq
   obtain ⟨i1, i2⟩ := ih h
   refine ⟨List.nodup_cons.mpr ⟨fun hm => ?_, i1⟩, fun d hd => ?_⟩
   ·rw [elem_iff.mpr hm] at hq; cases hq.2
   ·cases hd with
    | head => exact hq.1
    | tail _ hd => exact i2 d hd
  ·cases h
theorem viewsL_mem {l : List (CV Γ)} {c : CV Γ} (h : c ∈ l) {s : Nat} (hs : s ∈ c.views) : s ∈ viewsL l := by
 induction l with
 | nil => cases h
 | cons y r ih =>
  simp only [viewsL, List.mem_append]
  cases h with
  | head => exact .inl hs
  | tail _ h => exact .inr (ih h)
theorem TV.views_mem {v : TV Γ} {c : CV Γ} (h : c ∈ v.cs) {s : Nat} (hs : s ∈ c.views) : s ∈ v.views := by
 cases v with
 | cell y => simp [TV.cs] at h; subst h; exact hs
 | agg l => exact viewsL_mem h hs
theorem viewsT_mem {l : List (TV Γ)} {c : CV Γ} (h : c ∈ csT l) {s : Nat} (hs : s ∈ c.views) : s ∈ viewsT l := by
 induction l with
 | nil => cases h
 | cons y r ih =>
  simp only [viewsT, List.mem_append]
  simp only [csT, List.mem_append] at h
  rcases h with h | h
  ·exact .inl (TV.views_mem h hs)
  ·exact .inr (ih h)
theorem AV.views_mem {v : AV Γ} {c : CV Γ} (h : c ∈ v.cs) {s : Nat} (hs : s ∈ c.views) : s ∈ v.views := by
 cases v with
 | t y => exact TV.views_mem h hs
 | tup l => exact viewsT_mem h hs
theorem Blk.cs_sites {b : Blk Γ} {c : CV Γ} (h : c ∈ b.cs) {s : Nat} (hs : s ∈ c.sites) : s ∈ b.sites := by
 cases b with
 | box t cs => exact sitesL_mem h hs
 | _ => cases h
theorem Blk.cs_views {b : Blk Γ} {c : CV Γ} (h : c ∈ b.cs) {s : Nat} (hs : s ∈ c.views) : s ∈ b.views := by
 cases b with
 | box t cs => exact viewsL_mem h hs
 | _ => cases h
end
section
variable {T : Tab} {P : Program} {W : World} {O A : Nat → Prop} {E0 : Env} {E E' : Env} {w w' : World}
structure Chg (T : Tab) (W : World) (O A : Nat → Prop) (E E' : Env) (m : Mem T.Γ) (w w' : World) (mc : MC T.Γ) : Prop where
 news : ∀ s ∈ mc.news, (look mc.sets s).isSome = true
 writes : ∀ s ∈ mc.writes, (look mc.sets s).isSome = true
 env : ∀ s, s ∉ mc.news → E'.ρ s = E.ρ s ∧ E'.σ s = E.σ s ∧ E'.φ s = E.φ s
 os : w'.os = w.os
 tape : w'.tape = w.tape
 output : w'.output = w.output
 size : w.heap.size ≤ w'.heap.size
 heap : ∀ g, g < w.heap.size → (∀ s ∈ mc.writes, ¬ OwnBy E m s g) → w'.heap[g]? = w.heap[g]?
 blk : ∀ s b, look mc.sets s = some (some b) → BlkOk T E' (SB T W O A E' (m.sets mc.sets) w') w' s b
 own : ∀ s g, (look mc.sets s).isSome = true → OwnBy E' (m.sets mc.sets) s g → w.heap.size ≤ g ∨ ∃ s0, (look mc.sets s0).isSome = true ∧ OwnBy E m s0 g
 apart : ∀ s s' g, (look mc.sets s).isSome = true → (look mc.sets s').isSome = true → OwnBy E' (m.sets mc.sets) s g → OwnBy E' (m.sets mc.sets) s' g → s = s'
 cold : ∀ s, (look mc.sets s).isSome = true → s ∈ mc.writes ∨ s ∈ mc.news ∨ ∀ g, OwnBy E m s g → ¬ Own E' (m.sets mc.sets) g
theorem Chg.ownOld {m : Mem T.Γ} {mc : MC T.Γ} (h : Chg T W O A E E' m w w' mc) {g : Nat} (ho : Own E' (m.sets mc.sets) g) : w.heap.size ≤ g ∨ Own E m g := by
 obtain ⟨s, hs⟩ := ho
 cases hl : look mc.sets s with
 | some b =>
  rcases h.own s g (by rw [hl]; rfl) hs with h1 | ⟨s0, _, h1⟩
  ·exact .inl h1
  ·exact .inr ⟨s0, h1⟩
 | none =>
  obtain ⟨b, hb, hh, hφ⟩ := hs
  rw [get_sets, hl] at hb
  have hn : s ∉ mc.news := fun hn => by have := h.news s hn; rw [hl] at this; cases this
  rw [(h.env s hn).2.2] at hφ
  exact .inr ⟨s, b, hb, hh, hφ⟩
theorem Chg.stb (hT : TabOk T P) {st : St T.Γ} {a : Act} {mc : MC T.Γ} (h : Chg T W O A E E' st.mem w w' mc) (hR : Rel T W O A E0 E st a w) (hfree : ∀ d ∈ mc.news, st.mem.get d = none) {p : Pv} (hp : ∀ s, p = .of s ∨ p = .mix s → s ∉ mc.writes) {g : Nat}
  (hg : SB T W O A E st.mem w p g) : SB T W O A E' (st.mem.sets mc.sets) w' p g ∧ w'.heap[g]? = w.heap[g]? := by
 have hlt := hg.lt
 have hlt' : g < w'.heap.size := Nat.lt_of_lt_of_le hlt h.size
 have no : ¬ Own E st.mem g → ¬ Own E' (st.mem.sets mc.sets) g ∧ w'.heap[g]? = w.heap[g]? := fun hn =>
  ⟨fun ho => (h.ownOld ho).elim (fun h => by omega) hn, h.heap g hlt (fun s _ ho => hn ⟨s, ho⟩)⟩
 cases p with
 | near => exact ⟨⟨hlt', (no hg.2.1).1, hg.2.2⟩, (no hg.2.1).2⟩
 | far => exact ⟨⟨hlt', (no hg.2.1).1, hg.2.2⟩, (no hg.2.1).2⟩
 | of s =>
  rcases hg.2 with h1 | h1
  ·exact ⟨⟨hlt', .inl ⟨(no h1.1).1, h1.2⟩⟩, (no h1.1).2⟩
  ·refine ⟨⟨hlt', ?_⟩, h.heap g hlt (fun s0 hs0 ho => hp s (.inl rfl) (by rw [hR.mem.apart s s0 g h1 ho]; exact hs0))⟩
   cases hl : look mc.sets s with
   | none =>
    obtain ⟨b, hb, hh, hφ⟩ := h1
    have hn : s ∉ mc.news := fun hn => by have := h.news s hn; rw [hl] at this; cases this
    refine .inr ⟨b, ?_, hh, by rw [(h.env s hn).2.2]; exact hφ⟩
    rw [get_sets, hl]
    exact hb
   | some b =>
    rcases h.cold s (by rw [hl]; rfl) with hc | hc | hc
    ·exact absurd hc (hp s (.inl rfl))
    ·obtain ⟨b', hb', _⟩ := h1
     rw [hfree s hc] at hb'
     cases hb'
    ·exact .inl ⟨hc g h1, hR.mine g ⟨s, h1⟩⟩
 | mix s =>
  rcases hg.2 with h1 | h1
  ·exact ⟨⟨hlt', .inl ⟨(no h1.1).1, h1.2⟩⟩, (no h1.1).2⟩
  ·refine ⟨⟨hlt', ?_⟩, h.heap g hlt (fun s0 hs0 ho => hp s (.inr rfl) (by rw [hR.mem.apart s s0 g h1 ho]; exact hs0))⟩
   cases hl : look mc.sets s with
   | none =>
    obtain ⟨b, hb, hh, hφ⟩ := h1
    have hn : s ∉ mc.news := fun hn => by have := h.news s hn; rw [hl] at this; cases this
    refine .inr ⟨b, ?_, hh, by rw [(h.env s hn).2.2]; exact hφ⟩
    rw [get_sets, hl]
    exact hb
   | some b =>
    rcases h.cold s (by rw [hl]; rfl) with hc | hc | hc
    ·exact absurd hc (hp s (.inr rfl))
    ·obtain ⟨b', hb', _⟩ := h1
     rw [hfree s hc] at hb'
     cases hb'
    ·exact .inl ⟨hc g h1, .inl (hR.mine g ⟨s, h1⟩)⟩
theorem Chg.rel (hT : TabOk T P) {st : St T.Γ} {a : Act} {mc : MC T.Γ} (hR : Rel T W O A E0 E st a w) (hfs : ∀ d ∈ mc.news, st.pins ≤ d ∧ st.mem.get d = none ∧ (∀ (t : Nat) v, st.tmps[t]? = some (some v) → d ∉ v.sites) ∧ ∀ s b, st.mem.get s = some b → d ∉ b.sites)
  (hmeets : ∀ s ∈ memViews (st.mem.sets mc.sets), s ∉ mc.writes) (h : Chg T W O A E E' st.mem w w' mc) : Rel T W O A E0 E' { tmps := forget mc.writes st.tmps, mem := st.mem.sets mc.sets, pins := st.pins } a w' := by
 have hfree : ∀ d ∈ mc.news, st.mem.get d = none := fun d hd => (hfs d hd).2.1
 have stay : ∀ (c : CV T.Γ), (∀ s ∈ c.names, s ∉ mc.news) → (∀ s ∈ c.views, s ∉ mc.writes) → Stay E (SB T W O A E st.mem w) w E' (SB T W O A E' (st.mem.sets mc.sets) w') w' c := fun c h1 h2 =>
  ⟨fun s hs => ⟨(h.env s (h1 s hs)).1, (h.env s (h1 s hs)).2.1⟩, fun p hp g hg => h.stb hT hR hfree (fun s e => h2 s (pv_views (by rw [hp]; exact e.imp (fun e => by rw [e]) (fun e => by rw [e])))) hg⟩
 refine ⟨hR.defers, ?_, fun t u hu => ?_, ⟨fun s b hb => ?_, fun s s' g h1 h2 => ?_⟩, fun g hg => ?_, ⟨?_, ?_, ?_, ?_, fun g hg hO => ?_⟩, fun y hy => ?_, hR.pin.1, fun i hi => ?_⟩
 ·rw [hR.size]; exact (forget_length _ _).symm
 ·obtain ⟨h1, h2⟩ := forget_get _ _ t u hu
  obtain ⟨z, hz, hc⟩ := hR.tmps t u h1
  exact ⟨z, hz, hc.stay hT.stable (fun c hcs => stay c (fun s hs hn => (hfs s hn).2.2.1 t u h1 (AV.sites_mem hcs (names_sites hs))) (fun s hs => meets_false h2 s (AV.views_mem hcs hs)))⟩
 ·have hb : (st.mem.sets mc.sets).get s = some b := hb
  have hb0 := hb
  rw [get_sets] at hb
  cases hl : look mc.sets s with
  | some b0 =>
   rw [hl] at hb
   have hb : b0 = some b := hb
   subst hb
   exact h.blk s b hl
  | none =>
   rw [hl] at hb
   have hn : s ∉ mc.news := fun hn => by have := h.news s hn; rw [hl] at this; cases this
   refine (hR.mem.blk s b hb).stay hT (h.env s hn) (fun hh g hφ => ?_) (fun c hc => stay c (fun t ht hn => (hfs t hn).2.2.2 s b hb (Blk.cs_sites hc (names_sites ht))) (fun t ht => hmeets t (memViews_mem hb0 t (Blk.cs_views hc ht)))) (fun p hp g hg => ?_)
   ·have hob : OwnBy E st.mem s g := ⟨b, hb, hh, hφ⟩
    refine h.heap g ((hR.mem.blk s b hb).inside hT hh g hφ) (fun s0 hs0 ho => ?_)
    have := hR.mem.apart s s0 g hob ho
    subst this
    have := h.writes s hs0
    rw [hl] at this
    cases this
   ·refine h.stb hT hR hfree (fun t e => ?_) hg
    rcases e with e | e <;> subst e <;> cases b with
    | row q e l => cases q <;> cases hp
    | cold q e l => cases q <;> cases hp
    | _ => cases hp
 ·have h1 : OwnBy E' (st.mem.sets mc.sets) s g := h1
  have h2 : OwnBy E' (st.mem.sets mc.sets) s' g := h2
  have old : ∀ t, look mc.sets t = none → OwnBy E' (st.mem.sets mc.sets) t g → OwnBy E st.mem t g := by
   intro t hl ⟨b, hb, hh, hφ⟩
   rw [get_sets, hl] at hb
   have hn : t ∉ mc.news := fun hn => by have := h.news t hn; rw [hl] at this; cases this
   rw [(h.env t hn).2.2] at hφ
   exact ⟨b, hb, hh, hφ⟩
  have mixed : ∀ t t', (look mc.sets t).isSome = true → look mc.sets t' = none → OwnBy E' (st.mem.sets mc.sets) t g → OwnBy E' (st.mem.sets mc.sets) t' g → False := by
   intro t t' h3 h4 h5 h6
   have h7 := old t' h4 h6
   obtain ⟨b, hb, hh, hφ⟩ := h7
   have hlt := (hR.mem.blk t' b hb).inside hT hh g hφ
   rcases h.own t g h3 h5 with h8 | ⟨s0, h8, h9⟩
   ·omega
   ·have := hR.mem.apart t' s0 g ⟨b, hb, hh, hφ⟩ h9
    subst this
    rw [h4] at h8
    cases h8
  cases hl : look mc.sets s with
  | some b =>
   cases hl' : look mc.sets s' with
   | some b' => exact h.apart s s' g (by rw [hl]; rfl) (by rw [hl']; rfl) h1 h2
   | none => exact (mixed s s' (by rw [hl]; rfl) hl' h1 h2).elim
  | none =>
   cases hl' : look mc.sets s' with
   | some b' => exact (mixed s' s (by rw [hl']; rfl) hl h2 h1).elim
   | none => exact hR.mem.apart s s' g (old s hl h1) (old s' hl' h2)
 ·rcases h.ownOld hg with h1 | h1
  ·exact .inl (Nat.le_trans hR.kept.size h1)
  ·exact hR.mine g h1
 ·exact h.os.trans hR.kept.os
 ·exact h.tape.trans hR.kept.tape
 ·exact h.output.trans hR.kept.output
 ·exact Nat.le_trans hR.kept.size h.size
 ·rw [h.heap g (Nat.lt_of_lt_of_le hg hR.kept.size) (fun s _ ho => (hR.mine g ⟨s, ho⟩).elim (fun h => by omega) hO)]
  exact hR.kept.block g hg hO
 ·obtain ⟨g1, g2⟩ := hR.glob y hy
  have hlt : y.1 < w.heap.size := World.block_lt_of_cell? w _ g2
  refine ⟨fun ho => (h.ownOld ho).elim (fun h => by omega) g1, ?_⟩
  simp only [World.cell?] at g2 ⊢
  rw [h.heap y.1 hlt (fun s _ ho => g1 ⟨s, ho⟩)]
  exact g2
 ·have hn : i ∉ mc.news := fun hn => by have := (hfs i hn).1; have := hR.pin.1; omega
  obtain ⟨e1, e2, e3⟩ := h.env i hn
  obtain ⟨p1, p2, p3⟩ := hR.pin.2 i hi
  exact ⟨e1.trans p1, e2.trans p2, e3.trans p3⟩
theorem mem_rel (hT : TabOk T P) {st st' : St T.Γ} {a : Act} {d : Option Nat} {v : AV T.Γ} {x : Value} {mc : MC T.Γ} (hR : Rel T W O A E0 E st a w) (ha : st.apply d v mc = some st') (hne : mc.sets ≠ [])
  (h : Chg T W O A E E' st.mem w w' mc) (hv : ConcA T E' (SB T W O A E' (st.mem.sets mc.sets) w') w' v x) : Rel T W O A E0 E' st' (a.put d x) w' := by
 unfold St.apply at ha
 split at ha
 ·exact absurd ‹_› hne
 ·split at ha
  ·rename_i hchk
   simp only [Option.some.injEq] at ha
   simp only [Bool.and_eq_true, Bool.not_eq_true'] at hchk
   obtain ⟨hfa, hmv⟩ := hchk
   obtain ⟨_, hfr⟩ := freeAll_spec hfa
   have key := h.rel hT hR (fun d hd => free_spec (hfr d hd)) (fun s hs => meets_false hmv s (List.mem_append_right _ hs))
   subst ha
   have := put_rel (d := d) (st := { tmps := forget mc.writes st.tmps, mem := st.mem.sets mc.sets, pins := st.pins }) key hv
   cases d <;> exact this
  ·cases ha
theorem forget_nil {Γ : Sig} : ∀ (l : List (Option (AV Γ))), forget [] l = l
 | [] => rfl
 | none :: r => by rw [forget, forget_nil r]
 | some v :: r => by
  have : ∀ l : List Nat, meets l [] = false := fun l => by induction l with | nil => rfl | cons x r ih => simpa [meets] using ih
  simp only [forget, this, forget_nil r]
theorem mem_rel' (hT : TabOk T P) {st st' : St T.Γ} {a : Act} {d : Option Nat} {v : AV T.Γ} {x : Value} {mc : MC T.Γ} (hR : Rel T W O A E0 E st a w) (ha : st.apply d v mc = some st') (hnil : mc.sets = [] → mc.writes = [] ∧ mc.news = [])
  (h : Chg T W O A E E' st.mem w w' mc) (hv : ConcA T E' (SB T W O A E' (st.mem.sets mc.sets) w') w' v x) : Rel T W O A E0 E' st' (a.put d x) w' := by
 by_cases hne : mc.sets = []
 ·obtain ⟨h1, h2⟩ := hnil hne
  have key := h.rel hT hR (fun d hd => by rw [h2] at hd; cases hd) (fun s _ hs => by rw [h1] at hs; cases hs)
  rw [h1, forget_nil, hne] at key
  unfold St.apply at ha
  rw [hne] at ha hv
  simp only [Option.some.injEq] at ha
  subst ha
  exact put_rel (d := d) (st := { tmps := st.tmps, mem := st.mem, pins := st.pins }) key hv
 ·exact mem_rel hT hR ha hne h hv
end
end Go.Proofs.YtbbpcbjgekencaaGreatDoor.Ev
end
section
set_option linter.unusedVariables false
set_option linter.unusedSimpArgs false
set_option linter.unusedVariables false
namespace Go.Proofs.YtbbpcbjgekencaaGreatDoor.Ev
open Go Go.RowKit
section
variable {T : Tab} {P : Program} {W : World} {O A : Nat → Prop} {E0 : Env} {E E' : Env} {B : Pv → Nat → Prop} {w w' : World}
def Env.set (E : Env) (n : Nat) (r : Option Nat) (v : Value) (f : Nat → Prop) : Env :=
 ⟨fun s => if s = n then r else E.ρ s, fun s => if s = n then v else E.σ s, fun s => if s = n then f else E.φ s, 0⟩
theorem Env.set_other {n s : Nat} {r : Option Nat} {v : Value} {f : Nat → Prop} (h : s ≠ n) : (E.set n r v f).ρ s = E.ρ s ∧ (E.set n r v f).σ s = E.σ s ∧ (E.set n r v f).φ s = E.φ s := by
 simp [Env.set, h]
theorem Env.set_same {n : Nat} {r : Option Nat} {v : Value} {f : Nat → Prop} : (E.set n r v f).ρ n = r ∧ (E.set n r v f).σ n = v ∧ (E.set n r v f).φ n = f := by
 simp [Env.set]
theorem apply_free {st st' : St T.Γ} {d : Option Nat} {v : AV T.Γ} {mc : MC T.Γ} (ha : st.apply d v mc = some st') (hne : mc.sets ≠ []) : ∀ n ∈ mc.news, st.free n = true := by
 unfold St.apply at ha
 split at ha
 ·exact absurd ‹_› hne
 ·split at ha
  ·rename_i h
   simp only [Bool.and_eq_true] at h
   exact (freeAll_spec h.1).2
  ·cases ha
theorem new_chg {m : Mem T.Γ} {n : Nat} {b : Blk T.Γ} {r : Option Nat} {v : Value} {f : Nat → Prop} (hB : Below w.heap.size w w') (hf : ∀ g, f g → w.heap.size ≤ g)
  (hb : BlkOk T (E.set n r v f) (SB T W O A (E.set n r v f) (m.sets [(n, some b)]) w') w' n b) : Chg T W O A E (E.set n r v f) m w w' ⟨[(n, some b)], [n], []⟩ := by
 have lk : ∀ s, look [(n, some b)] s = if n = s then some (some b) else none := fun s => rfl
 have at_ : ∀ s, (look [(n, some b)] s).isSome = true → s = n := fun s h => by
  rw [lk] at h
  split at h
  ·exact Eq.symm ‹_›
  ·cases h
 refine ⟨fun s h => ?_, fun s h => (by cases h), fun s h => Env.set_other (fun e => h (by simp [e])), hB.os, hB.tape, hB.output, hB.size, fun g hg _ => hB.block g hg, fun s b' h => ?_, fun s g h ho => ?_, fun s s' g h1 h2 _ _ => (at_ s h1).trans (at_ s' h2).symm, fun s h => ?_⟩
 ·simp at h; subst h; rw [lk, if_pos rfl]; rfl
 ·have := at_ s (by rw [h]; rfl)
  subst this
  rw [lk, if_pos rfl] at h
  simp only [Option.some.injEq] at h
  subst h
  exact hb
 ·have := at_ s h
  subst this
  obtain ⟨_, _, _, hφ⟩ := ho
  rw [Env.set_same.2.2] at hφ
  exact .inl (hf g hφ)
 ·have := at_ s h
  subst this
  exact .inr (.inl (by simp))
theorem wp_new (hT : TabOk T P) {st st' : St T.Γ} {a : Act} {o : Oper} {v : AV T.Γ} {x : Value} {n : Nat} {b : Blk T.Γ} {r : Option Nat} {u : Value} {f : Nat → Prop} {N : Act → World → Prop} {Q : Exit → Act → World → Prop} (hR : Rel T W O A E0 E st a w)
  (ha : st.apply o.dst v ⟨[(n, some b)], [n], []⟩ = some st') (hrun : (execOp a.eval o).run P w = .ok (.value x) w') (hB : Below w.heap.size w w') (hf : ∀ g, f g → w.heap.size ≤ g)
  (hb : st.free n = true → BlkOk T (E.set n r u f) (SB T W O A (E.set n r u f) (st.mem.sets [(n, some b)]) w') w' n b)
  (hv : st.free n = true → ConcA T (E.set n r u f) (SB T W O A (E.set n r u f) (st.mem.sets [(n, some b)]) w') w' v x)
  (hN : ∀ E' a' w', Rel T W O A E0 E' st' a' w' → N a' w') : o.wp P a w N Q := by
 have hfr := apply_free ha (by simp) n (by simp)
 exact wp_value hrun (hN _ _ w' (mem_rel hT hR ha (by simp) (new_chg hB hf (hb hfr)) (hv hfr)))
theorem stay_new (hT : TabOk T P) {st : St T.Γ} {a : Act} {n : Nat} {b : Blk T.Γ} {r : Option Nat} {u : Value} {f : Nat → Prop} (hR : Rel T W O A E0 E st a w) (hfr : st.free n = true) (hB : Below w.heap.size w w') (hf : ∀ g, f g → w.heap.size ≤ g) {c : CV T.Γ} (hc : n ∉ c.sites) :
  Stay E (SB T W O A E st.mem w) w (E.set n r u f) (SB T W O A (E.set n r u f) (st.mem.sets [(n, some b)]) w') w' c := by
 obtain ⟨_, hm, _, _⟩ := free_spec hfr
 have own : ∀ s g, OwnBy (E.set n r u f) (st.mem.sets [(n, some b)]) s g → w.heap.size ≤ g ∨ OwnBy E st.mem s g := by
  intro s g ⟨b', hb', hh, hφ⟩
  by_cases e : s = n
  ·subst e; rw [Env.set_same.2.2] at hφ; exact .inl (hf g hφ)
  ·rw [(Env.set_other e).2.2] at hφ
   rw [get_sets] at hb'
   simp only [look, if_neg (fun h : n = s => e h.symm)] at hb'
   exact .inr ⟨b', hb', hh, hφ⟩
 have no : ∀ g, g < w.heap.size → ¬ Own E st.mem g → ¬ Own (E.set n r u f) (st.mem.sets [(n, some b)]) g := fun g hlt h ⟨s, hs⟩ => (own s g hs).elim (fun h => by omega) (fun h' => h ⟨s, h'⟩)
 refine ⟨fun s hs => ?_, fun p hp g hg => ?_⟩
 ·have e : s ≠ n := fun e => hc (e ▸ names_sites hs)
  exact ⟨(Env.set_other e).1, (Env.set_other e).2.1⟩
 ·have hlt := hg.lt
  have hlt' : g < w'.heap.size := Nat.lt_of_lt_of_le hlt hB.size
  refine ⟨?_, hB.block g hlt⟩
  have keep : ∀ s, s ∈ c.views → OwnBy E st.mem s g → OwnBy (E.set n r u f) (st.mem.sets [(n, some b)]) s g := by
   intro s hs ⟨b', hb', hh, hφ⟩
   have e : s ≠ n := fun e => hc (e ▸ views_sites hs)
   refine ⟨b', ?_, hh, by rw [(Env.set_other e).2.2]; exact hφ⟩
   rw [get_sets]
   simp only [look, if_neg (fun h : n = s => e h.symm)]
   exact hb'
  cases p with
  | near => exact ⟨hlt', no g hlt hg.2.1, hg.2.2⟩
  | far => exact ⟨hlt', no g hlt hg.2.1, hg.2.2⟩
  | of s => exact ⟨hlt', hg.2.imp (fun h => ⟨no g hlt h.1, h.2⟩) (keep s (pv_views (.inl hp)))⟩
  | mix s => exact ⟨hlt', hg.2.imp (fun h => ⟨no g hlt h.1, h.2⟩) (keep s (pv_views (.inr hp)))⟩
theorem sl_cells {p : Pv} {e : TypeId} {l : List (T.Γ.el e).ty} {v : Value} (h : Conc T E B w (.sl p e l) v) : v.cells = #[v] ∧ v.oneCell' = true := by
 generalize hk : CV.sl p e l = k at h
 cases h with
 | sl0 => exact ⟨rfl, rfl⟩
 | sl => exact ⟨rfl, rfl⟩
 | _ => cases hk
theorem okCell_cells (hT : TabOk T P) {m : Mem T.Γ} (hm : MemOk T E B w m) {c : CV T.Γ} {v : Value} (hk : okCell m c = true) (h : Conc T E B w c v) : v.cells = #[v] ∧ v.oneCell' = true := by
 cases h with
 | c => cases v <;> first | exact ⟨rfl, rfl⟩ | cases hk
 | own s =>
  obtain ⟨b, hb, hnb⟩ : ∃ b, m.get s = some b ∧ ∀ t cs, b ≠ .box t cs := by
   simp only [okCell] at hk
   split at hk
   ·cases hk
   ·rename_i b hx hb; exact ⟨b, hb, fun t cs e => hx t cs e⟩
   ·cases hk
  have hbk := hm.blk s b hb
  cases hbk with
  | box t cs g vs hg hf hh h => exact absurd rfl (hnb t cs)
  | row q e l g cap vs hg hf hh hs hc hv h => rw [hs]; exact ⟨rfl, rfl⟩
  | nil q e hf hs => rw [hs]; exact ⟨rfl, rfl⟩
  | cold q e l h => exact sl_cells h
  | obj κ x h => exact hT.one κ x _ w _ h
 | sl0 => exact ⟨rfl, rfl⟩
 | sl => exact ⟨rfl, rfl⟩
 | box => exact ⟨rfl, rfl⟩
 | rowp => exact ⟨rfl, rfl⟩
 | elp => exact ⟨rfl, rfl⟩
 | fn => exact ⟨rfl, rfl⟩
theorem okCells_all {m : Mem T.Γ} : ∀ {l : List (CV T.Γ)}, okCells m l = true → ∀ c ∈ l, okCell m c = true := by
 intro l
 induction l with
 | nil => intro _ c h; cases h
 | cons x r ih =>
  intro h c hc
  simp only [okCells] at h
  split at h
  ·cases hc with
   | head => assumption
   | tail _ hc => exact ih h c hc
  ·cases h
theorem cellsOf_conc (hT : TabOk T P) {m : Mem T.Γ} (hm : MemOk T E B w m) {v : AV T.Γ} {cs : List (CV T.Γ)} {x : Value} (h : cellsOf m v = some cs) (hc : ConcA T E B w v x) :
  ConcL T E B w cs x.cells.toList ∧ (∀ u ∈ x.cells.toList, u.oneCell' = true) ∧ cs = v.cs := by
 cases v with
 | tup l => cases h
 | t y =>
  cases hc with
  | t hc =>
  cases y with
  | cell y =>
   cases hc with
   | cell hc =>
   simp only [cellsOf] at h
   split at h
   ·rename_i hk
    simp only [Option.some.injEq] at h
    subst h
    obtain ⟨h1, h2⟩ := okCell_cells hT hm hk hc
    rw [h1]
    refine ⟨⟨rfl, fun j cv u h3 h4 => ?_⟩, fun u hu => ?_, rfl⟩
    ·cases j with
     | zero => simp at h3 h4; subst h3; subst h4; exact hc
     | succ j => simp at h3
    ·simp at hu; subst hu; exact h2
   ·cases h
  | agg l =>
   cases hc with
   | agg hc =>
   rename_i vs
   simp only [cellsOf] at h
   split at h
   ·rename_i hk
    simp only [Option.some.injEq] at h
    subst h
    refine ⟨hc, fun u hu => ?_, rfl⟩
    obtain ⟨j, hj, rfl⟩ := List.getElem_of_mem hu
    have hj2 : j < l.length := by have := hc.1; show j < l.length; rw [← this]; exact hj
    exact (okCell_cells hT hm (okCells_all hk l[j] (List.getElem_mem hj2)) (hc.2 j _ _ (List.getElem?_eq_getElem hj2) (List.getElem?_eq_getElem hj))).2
   ·cases h
theorem nmIn_free {st : St T.Γ} {d : Nat} {b : Blk T.Γ} {v : AV T.Γ} {dst : Option Nat} {st' : St T.Γ} {ws : List Nat} {r : List (Nat × Option (Blk T.Γ))} (ha : st.apply dst v ⟨(nmIn st.mem d, some b) :: r, [nmIn st.mem d], ws⟩ = some st') : st.free (nmIn st.mem d) = true :=
 apply_free ha (by simp) _ (by simp)
theorem sites_free {st : St T.Γ} {n : Nat} (hfr : st.free n = true) {x : Operand} {v : AV T.Γ} (h : st.eval x = some v) : n ∉ v.sites := by
 cases x with
 | tmp t =>
  have h1 : (st.tmps[t]?).join = some v := h
  cases hq : st.tmps[t]? with
  | none => rw [hq] at h1; cases h1
  | some o =>
   rw [hq] at h1
   cases o with
   | none => cases h1
   | some u =>
    obtain rfl : u = v := by simpa using h1
    exact (free_spec hfr).2.2.1 t _ hq
 | const u =>
  have h1 : ofValue u = some v := h
  have nil : ∀ (vs : List Value) (l : List (CV T.Γ)), ofCells vs = some l → sitesL l = [] := by
   intro vs
   induction vs with
   | nil => intro l h; simp only [ofCells, Option.some.injEq] at h; subst h; rfl
   | cons y r ih =>
    intro l h
    simp only [ofCells] at h
    split at h
    ·cases hq : ofCells (Γ := T.Γ) r with
     | none => rw [hq] at h; cases h
     | some l2 => rw [hq] at h; simp only [Option.map_some, Option.some.injEq] at h; subst h; exact ih l2 hq
    ·cases h
  unfold ofValue at h1
  split at h1
  ·rename_i cs
   cases hq : ofCells (Γ := T.Γ) cs.toList with
   | none => rw [hq] at h1; cases h1
   | some l =>
    rw [hq] at h1
    simp only [Option.map_some, Option.some.injEq] at h1
    subst h1
    intro hm
    have : sitesL l = [] := nil _ _ hq
    simp [AV.sites, TV.sites, this] at hm
  ·split at h1
   ·simp only [Option.some.injEq] at h1; subst h1; intro hm; simp [AV.sites, TV.sites, CV.sites] at hm
   ·cases h1
 | global g =>
  have h1 : some (AV.t (TV.cell (CV.c (Value.pointer (some ⟨g, 0, none⟩))))) = some v := h
  simp only [Option.some.injEq] at h1; subst h1; intro hm; simp [AV.sites, TV.sites, CV.sites] at hm
 | func f =>
  have h1 : some (AV.t (TV.cell (CV.c (Value.func (.func f) #[] #[])))) = some v := h
  simp only [Option.some.injEq] at h1; subst h1; intro hm; simp [AV.sites, TV.sites, CV.sites] at hm
theorem below_alloc (w : World) (o : Obj) : Below w.heap.size w (w.alloc o) := (Below.refl _ w).alloc (Nat.le_refl _) o
theorem alloc_new (w : World) (o : Obj) : (w.alloc o).heap[w.heap.size]? = some o := by
 show (w.heap.push o)[w.heap.size]? = _
 simp
theorem wp_box (hT : TabOk T P) {st st' : St T.Γ} {a : Act} {o : Oper} {n : Nat} {e : TypeId} {cs : List (CV T.Γ)} {vs : Array Value} {N : Act → World → Prop} {Q : Exit → Act → World → Prop} (hR : Rel T W O A E0 E st a w)
  (ha : st.apply o.dst (.t (.cell (.box n 0))) ⟨[(n, some (.box e cs))], [n], []⟩ = some st') (hrun : (execOp a.eval o).run P w = .ok (.value (.pointer (some ⟨w.heap.size, 0, none⟩))) (w.alloc (.cells vs e (0, 0))))
  (hc : ConcL T E (SB T W O A E st.mem w) w cs vs.toList) (hs : st.free n = true → ∀ c ∈ cs, n ∉ c.sites) (hN : ∀ E' a' w', Rel T W O A E0 E' st' a' w' → N a' w') : o.wp P a w N Q := by
 refine wp_new (n := n) (b := .box e cs) (r := some w.heap.size) (u := undef) (f := fun g => g = w.heap.size) hT hR ha hrun (below_alloc w _) (fun g h => by omega) (fun hfr => ?_) (fun hfr => .t (.cell (.box _ _ _ Env.set_same.1))) hN
 refine .box e cs w.heap.size vs Env.set_same.1 (fun g' => by rw [Env.set_same.2.2]) (alloc_new w _) ?_
 exact hc.stay hT.stable (fun c hcs => stay_new hT hR hfr (below_alloc w _) (fun g h => by omega) (hs hfr c hcs))
theorem box_sound (hT : TabOk T P) (S : FuncId → Option (FnS T.Γ)) (o : Oper) (e : TypeId) (x : Operand) (ho : o.op = .box e x) : OpSound T P S o := by
 intro W O A E0 k st E a w v mc st' N Q hR he ha hN
 simp only [evalD, ho] at he
 split at he
 ·rename_i d cs hd hcs
  simp only [Option.some.injEq, Prod.mk.injEq] at he
  obtain ⟨rfl, rfl⟩ := he
  cases hq : st.eval x with
  | none => rw [hq] at hcs; cases hcs
  | some v =>
   rw [hq] at hcs
   obtain ⟨hc, _, hcv⟩ := cellsOf_conc hT hR.mem hcs (eval_conc hR hq)
   refine wp_box hT hR ha ?_ hc (fun hfr c hcc hn => sites_free hfr hq (AV.sites_mem (by rw [← hcv]; exact hcc) hn)) hN
   simp only [execOp, ho]
   rfl
 ·cases he
theorem ofCells_sites : ∀ (vs : List Value) (l : List (CV T.Γ)), ofCells vs = some l → ∀ c ∈ l, c.sites = [] := by
 intro vs
 induction vs with
 | nil => intro l h c hc; simp only [ofCells, Option.some.injEq] at h; subst h; cases hc
 | cons y r ih =>
  intro l h c hc
  simp only [ofCells] at h
  split at h
  ·cases hq : ofCells (Γ := T.Γ) r with
   | none => rw [hq] at h; cases h
   | some l2 =>
    rw [hq] at h; simp only [Option.map_some, Option.some.injEq] at h; subst h
    cases hc with
    | head => rfl
    | tail _ hc => exact ih l2 hq c hc
  ·cases h
theorem alloc_sound (hT : TabOk T P) (S : FuncId → Option (FnS T.Γ)) (o : Oper) (e : TypeId) (ho : o.op = .alloc e) : OpSound T P S o := by
 intro W O A E0 k st E a w v mc st' N Q hR he ha hN
 simp only [evalD, ho] at he
 split at he
 ·rename_i d cs hd hcs
  simp only [Option.some.injEq, Prod.mk.injEq] at he
  obtain ⟨rfl, rfl⟩ := he
  unfold zeroCells at hcs
  split at hcs
  ·rename_i z hz
   obtain ⟨i, zv, h1, h2, h3⟩ := hT.zero _ _ hz
   refine wp_box (vs := zv.cells) hT hR ha ?_ (by rw [h3]; exact ofCells_conc _ _ hcs) (fun _ c hc hn => by rw [ofCells_sites _ _ hcs c hc] at hn; cases hn) hN
   simp only [execOp, ho]
   have : (Instr.alloc e true (.tuple #[])).run P w = .ok (.pointer (some ⟨w.heap.size, 0, none⟩)) (w.alloc (.cells zv.cells e (0, 0))) := by
    simp only [Instr.alloc, zeroValue, typeInfo, Sem.run_bind, program]
    show ((match P.info? e with | some i => pure i | none => stuck "no such type" : Sem TypeInfo).run P w |>.andThen _ |>.andThen _) = _
    rw [h1]
    show ((match i.zero with | some v => pure v | none => _ : Sem Value).run P w).andThen _ = _
    rw [h2]
    rfl
   rw [Sem.run_bind, this]
   rfl
  ·cases hcs
 ·cases he
theorem assign_sound (hT : TabOk T P) (S : FuncId → Option (FnS T.Γ)) (o : Oper) (x : Operand) (ho : o.op = .assign x ∨ o.op = .move x) : OpSound T P S o := by
 intro W O A E0 k st E a w v mc st' N Q hR he ha hN
 have hrun : (execOp a.eval o).run P w = .ok (.value (a.eval x)) w := by rcases ho with ho | ho <;> simp only [execOp, ho] <;> rfl
 have new : ∀ (e d : Nat), a.eval x = .slice none 0 0 → o.dst = some d → (AV.t (TV.cell (CV.own (nmIn st.mem d))), (⟨[(nmIn st.mem d, some (.row false e []))], [nmIn st.mem d], []⟩ : MC T.Γ)) = (v, mc) → o.wp P a w N Q := by
  intro e d hx hd he
  simp only [Prod.mk.injEq] at he
  obtain ⟨rfl, rfl⟩ := he
  rw [hx] at hrun
  refine wp_new (n := nmIn st.mem d) (b := .row false e []) (r := none) (u := .slice none 0 0) (f := fun _ => False) (x := .slice none 0 0) hT hR ha hrun (Below.refl _ w) (fun g h => h.elim) (fun hfr => ?_) (fun hfr => ?_) hN
  ·exact .nil false e (fun g h => by rw [Env.set_same.2.2] at h; exact h) Env.set_same.2.1
  ·have : (E.set (nmIn st.mem d) none (.slice none 0 0) fun _ => False).σ (nmIn st.mem d) = .slice none 0 0 := Env.set_same.2.1
   refine .t (.cell ?_)
   have h2 := Conc.own (T := T) (E := E.set (nmIn st.mem d) none (.slice none 0 0) fun _ => False) (B := SB T W O A (E.set (nmIn st.mem d) none (.slice none 0 0) fun _ => False) (st.mem.sets [(nmIn st.mem d, some (.row false e []))]) w) (w := w) (nmIn st.mem d)
   rw [this] at h2
   exact h2
 have old : ∀ u, st.eval x = some u → (u, (MC.no : MC T.Γ)) = (v, mc) → o.wp P a w N Q := by
  intro u hu he
  simp only [Prod.mk.injEq] at he
  obtain ⟨rfl, rfl⟩ := he
  unfold St.apply at ha
  simp only [MC.no, Option.some.injEq] at ha
  subst ha
  exact wp_value hrun (hN E _ w (put_rel hR (eval_conc hR hu)))
 rcases ho with ho | ho
 ·simp only [evalD, ho] at he
  split at he
  ·rename_i e d hu hd; exact new e d rfl hd (Option.some.inj he)
  ·split at he
   ·rename_i u hu; exact old u hu (Option.some.inj he)
   ·cases he
 ·simp only [evalD, ho] at he
  split at he
  ·rename_i e d hu hd; exact new e d rfl hd (Option.some.inj he)
  ·split at he
   ·rename_i u hu; exact old u hu (Option.some.inj he)
   ·cases he
theorem wp_row (hT : TabOk T P) {st st' : St T.Γ} {a : Act} {o : Oper} {n : Nat} {q : Bool} {e : TypeId} {l : List (T.Γ.el e).ty} {cap : Nat} {vs : Array Value} {N : Act → World → Prop} {Q : Exit → Act → World → Prop} (hR : Rel T W O A E0 E st a w)
  (ha : st.apply o.dst (.t (.cell (.own n))) ⟨[(n, some (.row q e l))], [n], []⟩ = some st') (hrun : (execOp a.eval o).run P w = .ok (.value (.slice (some ⟨w.heap.size, 0, none⟩) l.length cap)) (w.alloc (.cells vs e (0, 0))))
  (hcap : l.length ≤ cap) (hvs : vs.size = cap * (T.Γ.el e).n ∧ cap ≤ maxLen)
  (hc : ∀ i (h : i < l.length) (j : Nat) cv, (cellsQ T (pvOf q) e l[i])[j]? = some cv → ∃ y, vs[i * (T.Γ.el e).n + j]? = some y ∧ Conc T E (SB T W O A E st.mem w) w cv y)
  (hN : ∀ E' a' w', Rel T W O A E0 E' st' a' w' → N a' w') : o.wp P a w N Q := by
 refine wp_new (n := n) (b := .row q e l) (r := some w.heap.size) (u := .slice (some ⟨w.heap.size, 0, none⟩) l.length cap) (f := fun g => g = w.heap.size) hT hR ha hrun (below_alloc w _) (fun g h => by omega) (fun hfr => ?_) (fun hfr => ?_) hN
 ·refine .row q e l w.heap.size cap vs Env.set_same.1 (fun g' => by rw [Env.set_same.2.2]) (alloc_new w _) Env.set_same.2.1 hcap hvs (fun i hi j cv hj => ?_)
  obtain ⟨y, h1, h2⟩ := hc i hi j cv hj
  refine ⟨y, h1, h2.stay hT.stable (stay_new hT hR hfr (below_alloc w _) (fun g h => by omega) ?_)⟩
  rcases cell_form hT.stable (List.mem_of_getElem? hj) with ⟨v, rfl⟩ | ⟨e', l', rfl⟩
  ·simp [CV.sites]
  ·cases q <;> simp [CV.sites, pvOf, Pv.sites]
 ·refine .t (.cell ?_)
  have h2 := Conc.own (T := T) (E := E.set n (some w.heap.size) (.slice (some ⟨w.heap.size, 0, none⟩) l.length cap) fun g => g = w.heap.size) (B := SB T W O A (E.set n (some w.heap.size) (.slice (some ⟨w.heap.size, 0, none⟩) l.length cap) fun g => g = w.heap.size) (st.mem.sets [(n, some (.row q e l))]) (w.alloc (.cells vs e (0, 0)))) (w := w.alloc (.cells vs e (0, 0))) n
  rw [Env.set_same.2.1] at h2
  exact h2
theorem makeSlice_sound (hT : TabOk T P) (S : FuncId → Option (FnS T.Γ)) (o : Oper) (t : TypeId) (len cap : Operand) (ho : o.op = .makeSlice t len cap) : OpSound T P S o := by
 intro W O A E0 k st E a w v mc st' N Q hR he ha hN
 simp only [evalD, ho] at he
 split at he
 ·rename_i e d k1 n k2 c hu hd h1 h2
  split at he
  ·rename_i hs
   rcases br_some he with ⟨h0, he⟩ | ⟨_, he⟩
   ·rcases br_some he with ⟨hnc, he⟩ | ⟨_, he⟩
    ·rcases br_some he with ⟨hc, he⟩ | ⟨_, he⟩
     ·simp only [Option.some.injEq, Prod.mk.injEq] at he
      obtain ⟨rfl, rfl⟩ := he
      have e1 := eval_cell hR h1
      have e2 := eval_cell hR h2
      obtain ⟨hsz, hpos, _, z, hz, hcells, hpl⟩ := hT.std e hs
      obtain ⟨i, zv, hi, hiz, hzc⟩ := hT.zero _ _ hz
      have hsize : i.size = (T.Γ.el e).n := by
       have := hT.size _ _ hsz
       rw [hi] at this
       simpa using this
      have hzlen : zv.cells.size = (T.Γ.el e).n := by
       have := hT.count e (T.Γ.el e).z
       rw [← hcells.1, ← hzc] at this
       simpa using this
      have hby := (hT.bytes e hs i hi).2
      have hmake := run_make (P := P) w t e i zv (hT.und _ _ hu) hi hiz k1 k2 n c h0 hnc (by
       have : (i.bytes : Int) ≤ 128 := by omega
       have h3 : (i.bytes : Int) * c ≤ 128 * c := Int.mul_le_mul_of_nonneg_right this (by omega)
       omega) (by omega)
      have hlen : (List.replicate n.toNat (T.Γ.el e).z).length = n.toNat := List.length_replicate
      refine wp_row (vs := madeCells zv.cells (c.toNat * i.size)) (cap := c.toNat) hT hR ha ?_ (by rw [hlen]; omega) ⟨by rw [size_madeCells, hsize], by simp only [maxLen]; omega⟩ (fun q hq j cv hj => ?_) hN
      ·rw [hlen]
       simp only [execOp, ho]
       rw [e1, e2]
       exact bind_value (a := a) hmake
      ·rw [List.getElem_replicate] at hj
       have hj : (T.cells e (T.Γ.el e).z)[j]? = some cv := hj
       cases hzj : z[j]? with
       | none =>
        have h1 := (List.getElem?_eq_some_iff.mp hj).1
        rw [← hcells.1] at h1
        rw [List.getElem?_eq_getElem h1] at hzj
        cases hzj
       | some zj =>
        have hrel := hcells.2 j zj cv hzj hj
        have hjlt : j < (T.Γ.el e).n := by
         have := (List.getElem?_eq_some_iff.mp hzj).1
         rw [← hzc] at this
         simp at this
         omega
        rw [hlen] at hq
        have hidx : q * (T.Γ.el e).n + j < c.toNat * i.size := by
         rw [hsize]
         have : (q + 1) * (T.Γ.el e).n ≤ c.toNat * (T.Γ.el e).n := Nat.mul_le_mul_right _ (by omega)
         rw [Nat.add_mul] at this
         omega
        refine ⟨zj, ?_, by
         rcases hrel with rfl | ⟨⟨e', rfl⟩, rfl⟩
         ·exact .c _
         ·exact .sl0 _ _ _ _⟩
        have hz2 : zv.cells[j]? = some zj := by rw [← Array.getElem?_toList, hzc]; exact hzj
        have hmod : (q * (T.Γ.el e).n + j) % zv.cells.size = j := by
         rw [hzlen, Nat.add_comm, Nat.add_mul_mod_self_right, Nat.mod_eq_of_lt hjlt]
        unfold madeCells
        rw [Array.getElem?_map, Array.getElem?_range, if_pos hidx]
        simp only [Option.map_some, hmod]
        rw [getElem!_def, hz2]
     ·cases he
    ·cases he
   ·cases he
  ·cases he
 ·cases he
end
end Go.Proofs.YtbbpcbjgekencaaGreatDoor.Ev
end
