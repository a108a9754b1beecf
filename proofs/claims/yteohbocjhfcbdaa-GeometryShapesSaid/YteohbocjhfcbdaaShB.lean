/-
  THE SHADOW MACHINE, PART B: from the model's Code to the shadow machine's, by a function that the kernel reckons; 'Pol' holds choices that bear on no proof (which slots live at a loop's head, which calls keep what they made).
-/
import Derived.Test.YteohbocjhfcbdaaShA
namespace Go.Sh
set_option linter.unusedSectionVars false
set_option linter.unnecessarySimpa false
set_option linter.unusedSimpArgs false
set_option linter.unusedVariables false
structure Pol where
  /-- Functions whose blocks outlive the call, and how many they leave. -/
  keep : FuncId → Option Nat
  /-- By function and by the first region of a loop's body. -/
  loop : FuncId → Nat → LoopPol
  /-- Slices that are written out and never written to: they are lists from the first. -/
  lit : FuncId → Nat → Bool
  /-- Slices that become lists ahead of a region. -/
  frz : FuncId → Nat → List Nat
def cval : Nat → Value → Option SV
  | 0, _ => none
  | d + 1, v => match v with
    | .bool b => some (.bool b)
    | .int k n => some (.int k n)
    | .string s => some (.str s)
    | .pointer none => some .nilPtr
    | .slice none 0 0 => some (.lst 0 [] true)
    | .nilFunc => some .nilFn
    | .agg cs => (allS (cs.toList.map (cval d))).bind fun cs => bif cs.all SV.ok1 then some (.agg cs) else none
    | _ => none
def copd : Operand → Option Opd
  | .tmp t => some (.t t)
  | .const v => (cval 2 v).map .c
  | .func f => some (.c (.fn f []))
  | .global _ => none
def copds (xs : Array Operand) : Option (List Opd) := allS (xs.toList.map copd)
def copdO : Option Operand → Option (Option Opd)
  | none => some none
  | some x => (copd x).map some
section
variable (P : Program)
def csz (t : TypeId) : Option Nat := (P.info? t).map (·.size)
def cag (t : TypeId) : Option Bool := match P.underlying t with
  | some (.struct _) => some true
  | some (.array _ _) => some true
  | some _ => some false
  | none => none
def czero (t : TypeId) : Option (List SV) := match P.info? t with
  | some i => match i.zero with
    | some v => (allS (v.cells.toList.map (cval 1))).bind fun z => bif z.all SV.ok1 then some z else none
    | none => none
  | none => none
/-- Types that are compared cell by cell: what each cell holds. -/
def cshape : Nat → TypeId → Option (List LK)
  | 0, _ => none
  | d + 1, t => match P.underlying t with
    | some .bool => some [.b]
    | some (.int _) => some [.i]
    | some .string => some [.s]
    | some (.struct fs) => bif P.stoodInHeld t then none else fs.toList.foldlM (init := []) fun acc f =>
        bif f.name != "_" && f.offset == acc.length then (cshape d f.type).bind fun sh => bif (csz P f.type) == some sh.length then some (acc ++ sh) else none else none
    | some (.array n e) => (cshape d e).bind fun sh => bif (csz P e) == some sh.length then some (List.replicate n sh).flatten else none
    | _ => none
def cfields (t : TypeId) : Option (List Field) := match P.underlying t with
  | some (.struct fs) => some fs.toList
  | _ => none
def celem (t : TypeId) : Option TypeId := match P.underlying t with
  | some (.slice e) => some e
  | _ => none
def cbuild (t : TypeId) (ps : List (Nat × Operand)) : Option (List (Nat × Nat × Opd)) := match P.underlying t with
  | some (.struct fs) => bif !fs.toList.all (fun f => (csz P f.type).isSome) then none else allS (ps.map fun p => match fs[p.1]? with
    | some f => match csz P f.type, copd p.2 with
      | some n, some x => some (f.offset, n, x)
      | _, _ => none
    | none => none)
  | some (.array _ e) => match csz P e with
    | some n => allS (ps.map fun p => (copd p.2).map fun x => (p.1 * n, n, x))
    | none => none
  | _ => none
def ccall (c : Call) : Option Op1 := match c.callee with
  | .value f => match copd f, copds c.args with
    | some f, some xs => some (.call f xs)
    | _, _ => none
  | .invoke _ _ => none
  | .builtin b => match copds c.args with
    | none => none
    | some xs => match b, xs with
      | .len, [x] => match (c.argTypes[0]?).bind P.underlying with
        | some .string => some (.lenS x)
        | some (.slice _) => some (.len x)
        | some (.array n _) => some (.lenA n)
        | _ => none
      | .max, xs => match (c.argTypes[0]?).bind P.underlying with | some (.int _) => some (.maxI xs) | _ => none
      | .min, xs => match (c.argTypes[0]?).bind P.underlying with | some (.int _) => some (.minI xs) | _ => none
      | .append, [s, x] => match (c.argTypes[0]?).bind (celem P), (c.argTypes[1]?).bind P.underlying with
        | some e, some (.slice _) => match P.info? e with | some i => bif i.size == 0 || i.bytes == 0 then none else (match czero P e with | some z => bif z.length == i.size then some (.append i.size i.bytes s x) else none | none => none) | none => none
        | _, _ => none
      | _, _ => none
def cop (o : Op) : Option Op1 := match o with
  | .move x => (copd x).map .mov
  | .assign x => (copd x).map .mov
  | .pick c a b => match copd c, copd a, copd b with
    | some c, some a, some b => some (.pick c a b)
    | _, _, _ => none
  | .alloc t => (czero P t).map .alloc
  | .box _ x => (copd x).map .box
  | .build t ps => match czero P t, cbuild P t ps.toList with
    | some z, some ps => some (.build z ps)
    | _, _ => none
  | .buildSlice t n ps => match celem P t with
    | some e => match csz P e, czero P e, allS (ps.toList.map fun p => (copd p.2).map fun x => (p.1, x)) with
      | some (z + 1), some zs, some ps => bif decide (n * (z + 1) ≤ 16777216) && zs.length == z + 1 then some (.bslice (z + 1) zs n ps) else none
      | _, _, _ => none
    | none => none
  | .load t a => match cag P t, csz P t, copd a with
    | some ag, some n, some a => some (.load ag n a)
    | _, _, _ => none
  | .store t a x => match csz P t, copd a, copd x with
    | some n, some a, some x => some (.store n a x)
    | _, _, _ => none
  | .nilCheck x => (copd x).map .nilChk
  | .binOp op t x y _ => match copd x, copd y with
    | some x, some y => match op, P.underlying t with
      | .eql, some (.struct _) => bif P.eqGuardType P.depth t then none else (cshape P 6 t).map (.eqAgg false · x y)
      | .neq, some (.struct _) => bif P.eqGuardType P.depth t then none else (cshape P 6 t).map (.eqAgg true · x y)
      | .eql, some (.array _ _) => bif P.eqGuardType P.depth t then none else (cshape P 6 t).map (.eqAgg false · x y)
      | .neq, some (.array _ _) => bif P.eqGuardType P.depth t then none else (cshape P 6 t).map (.eqAgg true · x y)
      | op, some (.int _) => some (.bin op x y)
      | op, some .bool => some (.binB op x y)
      | op, some .string => some (.bin op x y)
      | _, _ => none
    | _, _ => none
  | .unOp .not _ x => (copd x).map .notB
  | .unOp .neg t x => match P.underlying t with | some (.int _) => (copd x).map .negI | _ => none
  | .convert s d x => match copd x with
    | none => none
    | some x => match P.underlying s, P.underlying d with
      | some (.int _), some (.int k) => some (.convI k x)
      | some .string, some .string => some (.convS x)
      | _, _ => none
  | .makeFunc (.func f) fs cs => bif fs.isEmpty then (copds cs).map (.mkfn f ·) else none
  | .makeSlice t l c => match celem P t with
    | some e => match P.info? e, czero P e, copd l, copd c with
      | some i, some z, some l, some c => bif i.size == 0 || i.bytes == 0 then none else bif z.length == i.size then some (.mkslice i.size z i.bytes l c) else none
      | _, _, _, _ => none
    | none => none
  | .slice t x lo hi mx => match copd x, copdO lo, copdO hi, copdO mx with
    | some x, some lo, some hi, some mx => match P.underlying t with
      | some (.slice e) => match csz P e with | some n => bif mx.isSome && hi.isNone then none else some (.sliceL n x lo hi mx) | none => none
      | some .string => match mx with | none => some (.sliceS x lo hi) | some _ => none
      | _ => none
    | _, _, _, _ => none
  | .fieldAddr s x f => match copd x, (cfields P s).bind (·[f]?) with
    | some x, some f => match csz P f.type with
      | some (_ + 1) => some (.faddr f.offset x)
      | _ => none
    | _, _ => none
  | .field s x f => match copd x, (cfields P s).bind (·[f]?) with
    | some x, some f => match cag P f.type, csz P f.type with
      | some ag, some n => some (.field ag n f.offset x)
      | _, _ => none
    | _, _ => none
  | .indexAddr t x ix => match copd x, copd ix with
    | some x, some ix => match P.underlying t with
      | some (.slice e) => match csz P e with | some (n + 1) => some (.iaddrS (n + 1) x ix) | _ => none
      | some (.array len e) => match csz P e with | some (n + 1) => some (.iaddrA len (n + 1) x ix) | _ => none
      | _ => none
    | _, _ => none
  | .index t x ix => match copd x, copd ix with
    | some x, some ix => match P.underlying t with
      | some (.array len e) => match cag P e, csz P e with | some ag, some n => some (.indexA ag n len x ix) | _, _ => none
      | some .string => some (.indexS x ix)
      | _ => none
    | _, _ => none
  | .extract x i => (copd x).map (.extract · i)
  | .call c => ccall P c
  | _ => none
def lit1 (b : Bool) (o : Op1) : Op1 := match b, o with
  | true, .bslice esz z n ps => .blist esz z n ps
  | _, o => o
def coper (pol : Pol) (f : FuncId) (nt : Nat) (ops : Array Oper) (o : Oper) : Option Oper1 :=
    let op := lit1 (match o.dst with | some d => pol.lit f d | none => false) ((cop P o.op).getD .bad)
    bif o.dst.any (fun d => decide (nt ≤ d)) then none else match o.guard with
    | none => some ⟨o.dst, op, none⟩
    | some (j, w) => match (ops[j]?).bind (·.dst) with
      | some t => some ⟨o.dst, op, some (t, w)⟩
      | none => none
end
/-! ### A region that draws its order: what each operation may not see, whether it may write -/
/-- Operations that look at no memory. -/
def pure1 : Op1 → Bool
  | .mov _ | .pick .. | .build .. | .blist .. | .bin .. | .binB .. | .eqAgg .. | .notB _ | .negI _ | .convI .. | .convS _ | .mkfn .. | .field .. | .indexA .. | .indexS .. | .extract .. | .lenS _ | .lenA _ | .maxI _ | .minI _ | .sliceS .. => true
  | _ => false
/-- Of each operation the set (a number's bits) of those that it waits for. -/
def before1 (ops : List Oper) : List Nat :=
  ops.foldl (init := []) fun acc o => acc ++ [o.after.toList.foldl (fun s e => bif Region.binds .any e then s ||| 2 ^ e.on ||| acc.getD e.on 0 else s) 0]
def opTmps (o : Oper1) : List Nat := (match o.op with
  | .mov x | .box x | .nilChk x | .notB x | .negI x | .convI _ x | .convS x | .convBS x | .convSB x | .faddr _ x | .field _ _ _ x | .extract x _ | .len x | .lenS x | .clear _ _ x | .load _ _ x => f [x]
  | .pick c a b => f [c, a, b]
  | .build _ ps => f (ps.map (·.2.2))
  | .bslice _ _ _ ps => f (ps.map (·.2))
  | .blist _ _ _ ps => f (ps.map (·.2))
  | .store _ a x | .bin _ a x | .binB _ a x | .eqAgg _ _ a x | .iaddrS _ a x | .iaddrA _ _ a x | .indexA _ _ _ a x | .indexS a x | .append _ _ a x | .appendS a x | .copy _ a x | .mkslice _ _ _ a x => f [a, x]
  | .mkfn _ cs => f cs
  | .sliceL _ x lo hi mx => f ([x] ++ lo.toList ++ hi.toList ++ mx.toList)
  | .sliceS x lo hi => f ([x] ++ lo.toList ++ hi.toList)
  | .maxI xs | .minI xs => f xs
  | .call g xs => f (g :: xs)
  | .alloc _ | .lenA _ | .bad => []) ++ (match o.g with | some (t, _) => [t] | none => [])
where f (xs : List Opd) : List Nat := xs.filterMap fun | .t n => some n | .c _ => none
def cmp1 (bs : List Nat) (i j : Nat) : Bool := i == j || (bs.getD j 0).testBit i || (bs.getD i 0).testBit j
def nalOf (pol : Pol) (o : Oper1) : Nat := match o.op with
  | .call (.c (.fn f _)) _ => (pol.keep f).getD 0
  | .append .. | .appendS .. | .box _ | .alloc _ | .bslice .. | .mkslice .. | .convSB _ => 1
  | _ => 0
def isBar (d : Draw1) : Bool := match d.kind with | .bar => true | _ => false
def isSeg (d : Draw1) : Bool := match d.kind with | .seg => true | _ => false
def isPure (d : Draw1) : Bool := match d.kind with | .pure => true | _ => false
/-- What the proof asks of the choices. -/
def okDraws (bs : List Nat) (ops : List Oper) (pl : List (Oper1 × Draw1)) : Bool :=
  let n := pl.length
  let rg := List.range n
  let dr := fun i => ((pl[i]?).map (·.2)).getD ⟨.pure, [], 0, 0⟩
  let bar := fun i => isBar (dr i)
  let seg := fun i => isSeg (dr i)
  (ops.zipIdx.all fun p => p.1.after.toList.all fun e => !Region.binds .any e || decide (e.on < p.2)) &&
  (rg.all fun j => (List.range j).all fun i => match pl[i]?, pl[j]? with
    | some a, some b => (bs.getD j 0).testBit i || !((match a.1.dst with | some d => (opTmps b.1).contains d || b.1.dst == some d | none => false) || (match b.1.dst with | some d => (opTmps a.1).contains d | none => false))
    | _, _ => false) &&
  (pl.all fun p => !isPure p.2 || pure1 p.1.op && p.2.nal == 0) &&
  (rg.all fun i => !bar i || rg.all fun j => isPure (dr j) || cmp1 bs i j) &&
  (rg.all fun i => (dr i).offs == match i with | 0 => 0 | k + 1 => bif bar k then 0 else (dr k).offs + (dr k).nal) &&
  (rg.all fun i => !seg i || (List.range i).all fun k => !seg k || ((List.range i).any fun m => decide (k < m) && bar m) || (bs.getD i 0).testBit k || (List.range (dr k).nal).all fun m => (dr i).hide.contains ((dr k).offs + m))
def cdrawn (pol : Pol) (ops : List Oper) (l : List Oper1) : Option (List (Oper1 × Draw1)) :=
  let bs := before1 ops
  let n := l.length
  let pu := l.map fun o => pure1 o.op
  let nonpure := (List.range n).filter fun i => !pu.getD i true
  let bars := (List.range n).map fun i => !pu.getD i true && nonpure.all fun j => cmp1 bs i j
  let nals := l.zipIdx.map fun p => bif pu.getD p.2 true || bars.getD p.2 false then 0 else nalOf pol p.1
  let scan := (List.range n).foldl (init := (([] : List (Nat × Nat)), 0, 0)) fun (acc, off, st) i =>
    bif bars.getD i false then (acc ++ [(off, st)], 0, i + 1) else (acc ++ [(off, st)], off + nals.getD i 0, st)
  let pl := l.zipIdx.map fun p =>
    let i := p.2
    let os := scan.1.getD i (0, 0)
    (p.1, bif pu.getD i true then ⟨.pure, [], 0, os.1⟩ else bif bars.getD i false then ⟨.bar, [], 0, os.1⟩ else
      ⟨.seg, (List.range i).flatMap fun k => bif decide (os.2 ≤ k) && !pu.getD k true && !cmp1 bs i k then (List.range (nals.getD k 0)).map fun m => (scan.1.getD k (0, 0)).1 + m else [], nals.getD i 0, os.1⟩)
  bif okDraws bs ops pl then some pl else none
def cregion (P : Program) (pol : Pol) (f : FuncId) (nt : Nat) (ops : Array Oper) (draw : Bool) : Option Code1 := match allS (ops.toList.map (coper P pol f nt ops)) with
  | none => none
  | some l => bif draw then (cdrawn pol ops.toList l).map .drawn else some (.ops l)
def firstReg : Code → Option Nat
  | .region id _ _ => some id
  | .seq a b => (firstReg a).orElse fun _ => firstReg b
  | .cond _ a b => (firstReg a).orElse fun _ => firstReg b
  | .block _ a => firstReg a
  | .loop a => firstReg a
  | .rangeFunc _ _ a b => (firstReg a).orElse fun _ => firstReg b
  | .scope a => firstReg a
  | _ => none
def freezes (c : Code1) : List Nat → Code1
  | [] => c
  | t :: r => .seq (.freeze t) (freezes c r)
def ccode (P : Program) (pol : Pol) (f : FuncId) (nt : Nat) : Code → Option Code1
  | .skip => some .skip
  | .region id ops draw => (cregion P pol f nt ops draw).map fun c => freezes c (pol.frz f id)
  | .seq a b => match ccode P pol f nt a, ccode P pol f nt b with
    | some a, some b => some (.seq a b)
    | _, _ => none
  | .cond c a b => match copd c, ccode P pol f nt a, ccode P pol f nt b with
    | some c, some a, some b => some (.cond c a b)
    | _, _, _ => none
  | .block id a => (ccode P pol f nt a).map (.block id)
  | .loop a => (ccode P pol f nt a).map (.loop (pol.loop f ((firstReg a).getD 0)))
  | .rangeFunc g ps a b => match copd g, ccode P pol f nt a, ccode P pol f nt b with
    | some g, some a, some b => bif ps.toList.any (fun d => decide (nt ≤ d)) then none else some (.rangeF g ps.toList a b)
    | _, _, _ => none
  | .exit id => some (.exit id)
  | .ret => some .ret
  | _ => none
def cres (P : Program) : ResultVar → Option Res1
  | .tmp t => some (.tmp t)
  | .cell a t => match cag P t, csz P t with
    | some ag, some n => some (.cell a ag n)
    | _, _ => none
def cfun (P : Program) (pol : Pol) (f : FuncId) : Option Fun1 := match P.funcs[f]? with
  | none => none
  | some fn => match fn.body with
    | none => none
    | some b => bif fn.name == "runtime.NumGoroutine" then none else match ccode P pol f fn.ntmps b, allS (fn.results.toList.map (cres P)) with
      | some b, some rs => some ⟨rs, b, (pol.keep f).isSome⟩
      | _, _ => none
end Go.Sh
