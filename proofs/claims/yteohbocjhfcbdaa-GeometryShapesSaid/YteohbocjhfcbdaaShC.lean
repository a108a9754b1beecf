/-
  THE SHADOW MACHINE, PART C: what it means that shadow values and blocks stand for the model's; what carries that on from one world to a later one.
-/
import Derived.Test.YteohbocjhfcbdaaShB

import Derived.RangeFuncLeaves
import Derived.RangeFuncCalls
namespace Go.Sh
set_option linter.unusedSectionVars false
set_option linter.unnecessarySimpa false
set_option linter.unusedSimpArgs false
set_option linter.unusedVariables false
/-- Where a shadow block lies: the model's block, the first cell, how many elements of how many cells; which version of its slices is good. -/
structure Loc where
  blk : Nat
  base : Nat
  cap : Nat
  esz : Nat
  ver : Nat
  virt : Bool
  arr : Bool
abbrev Map := Nat → Option Loc
abbrev noMap : Map := fun _ => none
/-- Values that fill one cell. -/
def one1 : Value → Bool
  | .agg _ => false
  | .tuple _ => false
  | _ => true
inductive VR (w : World) (F : Nat → Prop) : Map → SV → Value → Prop
  | undef {ρ : Map} (v : Value) : VR w F ρ .undef v
  | skp {ρ : Map} : VR w F ρ .skp undef
  | bool {ρ : Map} (b : Bool) : VR w F ρ (.bool b) (.bool b)
  | int {ρ : Map} (k : IntKind) (n : Int) : VR w F ρ (.int k n) (.int k n)
  | str {ρ : Map} (s : ByteArray) : VR w F ρ (.str s) (.string s)
  | nilPtr {ρ : Map} : VR w F ρ .nilPtr (.pointer none)
  | ptr {ρ : Map} {b ver i o : Nat} {l : Loc} {v : Value} (h : ρ b = some l) (hv : ver ≤ l.ver) (hc : one1 v = true)
      (ha : ver = l.ver → l.virt = false ∧ v = .pointer (some ⟨l.blk, l.base + i * l.esz + o, none⟩)) : VR w F ρ (.ptr b ver i o) v
  | eptr {ρ : Map} {cs : List SV} {B o : Nat} (V : Nat → Value) (hF : F B) (hc : ∀ j c, cs[j]? = some c → w.cell? ⟨B, o + j, none⟩ = some (V j))
      (h1 : ∀ (j : Nat) (c : SV), cs[j]? = some c → c.ok1 = true) (hv : ∀ j c, cs[j]? = some c → VR w F noMap c (V j)) : VR w F ρ (.eptr cs) (.pointer (some ⟨B, o, none⟩))
  | lst {ρ : Map} {z : Nat} {L : List (List SV)} {full : Bool} {a : Option Addr} {cap : Nat} (V : Nat → Nat → Value) (hcap : L.length ≤ cap) (hfull : full = true → cap = L.length)
      (hz : ∀ (i : Nat) cs, L[i]? = some cs → cs.length = z)
      (hat : L = [] ∨ ∃ B o, a = some ⟨B, o, none⟩ ∧ F B ∧ ∀ (i j : Nat) cs c, L[i]? = some cs → cs[j]? = some c → w.cell? ⟨B, o + i * z + j, none⟩ = some (V i j))
      (h1 : ∀ (i j : Nat) cs (c : SV), L[i]? = some cs → cs[j]? = some c → c.ok1 = true)
      (hv : ∀ (i j : Nat) cs c, L[i]? = some cs → cs[j]? = some c → VR w F noMap c (V i j)) : VR w F ρ (.lst z L full) (.slice a L.length cap)
  | slc {ρ : Map} {b ver off n : Nat} {l : Loc} {v : Value} (h : ρ b = some l) (hv : ver ≤ l.ver) (hc : one1 v = true)
      (ha : ver = l.ver → (l.virt = true → ∃ a, v = .slice a 0 0 ∧ off = 0 ∧ n = 0) ∧
        (l.virt = false → off + n ≤ l.cap ∧ ∃ a, v = .slice a n (l.cap - off) ∧ (off < l.cap → a = some ⟨l.blk, l.base + off * l.esz, none⟩))) : VR w F ρ (.slc b ver off n) v
  | agg {ρ : Map} {cs : List SV} {vs : Array Value} (hn : cs.length = vs.size) (h1 : ∀ (j : Nat) (c : SV), cs[j]? = some c → c.ok1 = true)
      (hv : ∀ (j : Nat) c v, cs[j]? = some c → vs[j]? = some v → VR w F ρ c v) : VR w F ρ (.agg cs) (.agg vs)
  | tup {ρ : Map} {cs : List SV} {vs : Array Value} (hn : cs.length = vs.size)
      (hv : ∀ (j : Nat) c v, cs[j]? = some c → vs[j]? = some v → VR w F ρ c v) : VR w F ρ (.tup cs) (.tuple vs)
  | fn {ρ : Map} {f : FuncId} {cs : List SV} {vs : Array Value} (hn : cs.length = vs.size)
      (hv : ∀ (j : Nat) c v, cs[j]? = some c → vs[j]? = some v → VR w F ρ c v) : VR w F ρ (.fn f cs) (.func (.func f) #[] vs)
  | nilFn {ρ : Map} : VR w F ρ .nilFn .nilFunc
  | yld {ρ : Map} {b : Nat} {l : Loc} (h : ρ b = some l) (ha : l.arr = false) : VR w F ρ (.yld b) (.func (.yield l.blk) #[] #[])
/-- What a one-cell shadow value stands for fills one cell. -/
theorem VR.one {w : World} {F : Nat → Prop} {ρ : Map} {c : SV} {v : Value} (h : VR w F ρ c v) (h1 : c.ok1 = true) : one1 v = true := by
  cases h <;> first | rfl | assumption | (simp [SV.ok1] at h1)
/-- Maps that say more, or that have let go of old versions of slices. -/
def Map.le (ρ ρ' : Map) : Prop := ∀ b l, ρ b = some l → ∃ l', ρ' b = some l' ∧ (l' = l ∨ (l.arr = true ∧ l.ver < l'.ver))
theorem Map.le_refl (ρ : Map) : ρ.le ρ := fun _ l h => ⟨l, h, .inl rfl⟩
theorem Map.le_trans {a b c : Map} (h : a.le b) (h' : b.le c) : a.le c := fun x l hl => by
  obtain ⟨l1, h1, e1⟩ := h x l hl
  obtain ⟨l2, h2, e2⟩ := h' x l1 h1
  refine ⟨l2, h2, ?_⟩
  rcases e1 with rfl | ⟨a1, v1⟩
  · exact e2
  · rcases e2 with rfl | ⟨_, v2⟩
    · exact .inr ⟨a1, v1⟩
    · exact .inr ⟨a1, by omega⟩
theorem noMap_le (ρ : Map) : noMap.le ρ := fun _ _ h => by cases h
/-- What is frozen stays as it was. -/
def Keeps (F : Nat → Prop) (w w' : World) : Prop := ∀ B, F B → w'.heap[B]? = w.heap[B]?
theorem Keeps.cell {F : Nat → Prop} {w w' : World} (h : Keeps F w w') {B o : Nat} (hB : F B) : w'.cell? ⟨B, o, none⟩ = w.cell? ⟨B, o, none⟩ := by
  simp only [World.cell?, h B hB]
theorem VR.mono {w w' : World} {F F' : Nat → Prop} (hk : Keeps F w w') (hF : ∀ B, F B → F' B) {ρ : Map} {c : SV} {v : Value}
    (h : VR w F ρ c v) : ∀ {ρ' : Map}, ρ.le ρ' → VR w' F' ρ' c v := by
  induction h with
  | undef v => exact fun _ => .undef v
  | skp => exact fun _ => .skp
  | bool b => exact fun _ => .bool b
  | int k n => exact fun _ => .int k n
  | str s => exact fun _ => .str s
  | nilPtr => exact fun _ => .nilPtr
  | nilFn => exact fun _ => .nilFn
  | ptr h hv hc ha =>
    intro ρ' hle
    obtain ⟨l', h', e⟩ := hle _ _ h
    rcases e with rfl | ⟨_, hlt⟩
    · exact .ptr h' hv hc ha
    · exact .ptr h' (by omega) hc (fun e => by omega)
  | slc h hv hc ha =>
    intro ρ' hle
    obtain ⟨l', h', e⟩ := hle _ _ h
    rcases e with rfl | ⟨_, hlt⟩
    · exact .slc h' hv hc ha
    · exact .slc h' (by omega) hc (fun e => by omega)
  | yld h ha =>
    intro ρ' hle
    obtain ⟨l', h', e⟩ := hle _ _ h
    rcases e with rfl | ⟨ht, _⟩
    · exact .yld h' ha
    · rw [ha] at ht; cases ht
  | eptr V hB hc h1 hv ih =>
    intro ρ' _
    exact .eptr V (hF _ hB) (fun j c hj => by rw [hk.cell hB]; exact hc j c hj) h1 (fun j c hj => ih j c hj (noMap_le _))
  | lst V hcap hfull hz hat h1 hv ih =>
    intro ρ' _
    refine .lst V hcap hfull hz ?_ h1 (fun i j cs c hi hj => ih i j cs c hi hj (noMap_le _))
    rcases hat with h0 | ⟨B, o, ha, hB, hc⟩
    · exact .inl h0
    · exact .inr ⟨B, o, ha, hF _ hB, fun i j cs c hi hj => by rw [hk.cell hB]; exact hc i j cs c hi hj⟩
  | agg hn h1 hv ih =>
    intro ρ' hle
    exact .agg hn h1 (fun j c v hj hv => ih j c v hj hv hle)
  | tup hn hv ih =>
    intro ρ' hle
    exact .tup hn (fun j c v hj hv => ih j c v hj hv hle)
  | fn hn hv ih =>
    intro ρ' hle
    exact .fn hn (fun j c v hj hv => ih j c v hj hv hle)
/-- A value that refers to no block stands under any map. -/
def Map.cut (ρ : Map) (N : Nat) : Map := fun b => if b < N then ρ b else none
theorem Map.cut_le (ρ : Map) (N : Nat) : (ρ.cut N).le ρ := fun b l h => by
  unfold Map.cut at h
  split at h
  · exact ⟨l, h, .inl rfl⟩
  · cases h
theorem refsL_le {cs : List SV} {N : Nat} (h : SV.refs.refsL cs ≤ N) : ∀ (j : Nat) c, cs[j]? = some c → c.refs ≤ N := by
  induction cs with
  | nil => intro j c hj; simp at hj
  | cons x r ih =>
    intro j c hj
    simp only [SV.refs.refsL] at h
    cases j with
    | zero => simp at hj; subst hj; omega
    | succ j => simp at hj; exact ih (by omega) j c hj
theorem VR.cut {w : World} {F : Nat → Prop} {ρ : Map} {c : SV} {v : Value} (h : VR w F ρ c v) : ∀ N, c.refs ≤ N → VR w F (ρ.cut N) c v := by
  have at' : ∀ {ρ : Map} {b N : Nat} {l : Loc}, ρ b = some l → b + 1 ≤ N → ρ.cut N b = some l := fun h hb => by
    unfold Map.cut; rw [if_pos (by omega)]; exact h
  induction h with
  | undef v => exact fun _ _ => .undef v
  | skp => exact fun _ _ => .skp
  | bool b => exact fun _ _ => .bool b
  | int k n => exact fun _ _ => .int k n
  | str s => exact fun _ _ => .str s
  | nilPtr => exact fun _ _ => .nilPtr
  | nilFn => exact fun _ _ => .nilFn
  | ptr h hv hc ha => exact fun N hN => .ptr (at' h hN) hv hc ha
  | slc h hv hc ha => exact fun N hN => .slc (at' h hN) hv hc ha
  | yld h ha => exact fun N hN => .yld (at' h hN) ha
  | eptr V hB hc h1 hv ih => exact fun N _ => .eptr V hB hc h1 hv
  | lst V hcap hfull hz hat h1 hv ih => exact fun N _ => .lst V hcap hfull hz hat h1 hv
  | agg hn h1 hv ih => exact fun N hN => .agg hn h1 (fun j c v hj hv => ih j c v hj hv N (refsL_le hN j c hj))
  | tup hn hv ih => exact fun N hN => .tup hn (fun j c v hj hv => ih j c v hj hv N (refsL_le hN j c hj))
  | fn hn hv ih => exact fun N hN => .fn hn (fun j c v hj hv => ih j c v hj hv N (refsL_le hN j c hj))
/-! ### Blocks -/
def pendCode : SEx → Option Code
  | .normal => none
  | .exit id => some (.exit id)
  | .ret => some .ret
/-- The shadow's slots stand for the model's. -/
def ER (w : World) (F : Nat → Prop) (ρ : Map) (e : Env) (tmps : Array Value) : Prop := ∀ t, VR w F ρ (get e t) (tmps.getD t undef)
structure Ctx where
  P : Program
  pol : Pol
/-- No cell of a row of 'n' cells is frozen. -/
def Thawed (fz : Nat × Nat) (n : Nat) : Prop := ∀ o, o < n → (decide (fz.1 ≤ o) && decide (o < fz.2)) = false
def CellsR (w : World) (F : Nat → Prop) (ρ : Map) (vs : Array Value) (at_ : Nat) (cs : List SV) : Prop :=
  ∀ (j : Nat) c, cs[j]? = some c → ∃ v, vs[at_ + j]? = some v ∧ VR w F ρ c v ∧ c.ok1 = true
def BR (C : Ctx) (w : World) (F : Nat → Prop) (ρ : Map) (l : Loc) : SBlk → Prop
  | .dead => True
  | .box cs => l.virt = false ∧ l.arr = false ∧ l.base = 0 ∧ l.ver = 0 ∧ l.esz = cs.length ∧ ∃ vs ty fz, w.heap[l.blk]? = some (.cells vs ty fz) ∧ Thawed fz vs.size ∧ vs.size = cs.length ∧ CellsR w F ρ vs 0 cs
  | .arr ver z L exact => l.arr = true ∧ l.ver = ver ∧ l.esz = z ∧ (∀ (i : Nat) cs, L[i]? = some cs → cs.length = z) ∧ L.length ≤ l.cap ∧ (exact = true → l.cap = L.length) ∧
      (l.virt = true → l.cap = 0) ∧
      (l.virt = false → ∃ vs ty fz, w.heap[l.blk]? = some (.cells vs ty fz) ∧ Thawed fz vs.size ∧ l.base + l.cap * z ≤ vs.size ∧
        ∀ (i : Nat) cs, L[i]? = some cs → CellsR w F ρ vs (l.base + i * z) cs)
  | .loop r st pend => l.virt = false ∧ l.arr = false ∧ ∃ q : Loop, w.heap[l.blk]? = some (.loop q) ∧ q.state = st ∧ q.pending = pendCode pend ∧ q.params.toList = r.ps ∧
      (∃ g nt, nt ≤ q.tmps.size ∧ (∀ t ∈ r.ps, t < nt) ∧ ccode C.P C.pol g nt q.assign = some r.assign ∧ ccode C.P C.pol g nt q.body = some r.body) ∧ ER w F ρ r.env q.tmps
end Go.Sh
