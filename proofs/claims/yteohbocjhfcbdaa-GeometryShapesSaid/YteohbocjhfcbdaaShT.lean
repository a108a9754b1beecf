/-
  THE SHADOW MACHINE, PART T: calls, and regions that are carried out from front to back.
-/
import Derived.Test.YteohbocjhfcbdaaShS
namespace Go.Sh
set_option linter.unusedSectionVars false
set_option linter.unusedVariables false
set_option linter.unusedSimpArgs false
set_option linter.unnecessarySimpa false
/-- The fence that lets everything in, in an activation or in a round. -/
abbrev WF (ro : Option Nat) : Fence := { fn := fun _ => True, depth := none, alive := false, round := ro }
def ArgsR (w : World) (F : Nat → Prop) (ρ : Map) (xs : List SV) (args : Array Value) : Prop := xs.length = args.size ∧ ∀ (j : Nat) c v, xs[j]? = some c → args[j]? = some v → VR w F ρ c v
def CallOK (C : Ctx) (rec : Rec) : Prop := ∀ f xs H v H', rec (.fn f) xs H = some (v, H') → ∀ (ρ : Map) (F : Nat → Prop) (w : World) (args : Array Value), HR C ρ F H w → ArgsR w F ρ xs args →
  (callFunc f args).run C.P w = .ok (.enter f args) w ∧ ∀ n, CallsIn Fence.wide n C.P f args w (fun e w' => ∃ val, e = .returned val ∧ Done C ρ F H w v H' val w')
def YldOK (C : Ctx) (rec : Rec) : Prop := ∀ b xs H v H', rec (.yld b) xs H = some (v, H') → ∀ (ρ : Map) (F : Nat → Prop) (w : World) (args : Array Value) (l : Loc), HR C ρ F H w → ArgsR w F ρ xs args → ρ b = some l →
  ∃ f tmps as bd, (Instr.yield l.blk args).run C.P w = .ok (.round l.blk f tmps as bd) w ∧ ∀ n, RoundIn Fence.wide n C.P l.blk f tmps as bd w (fun e w' => ∃ val, e = .returned val ∧ Done C ρ F H w v H' val w')
structure RecOK (C : Ctx) (rec : Rec) : Prop where
  call : CallOK C rec
  yld : YldOK C rec
section
variable {C : Ctx} {ρ : Map} {F : Nat → Prop} {H H' : Heap} {w : World} {e : Env} {a : Act} {s c d : SV}
theorem args_of {xs : List SV} {vs : Array Value} (hn : xs.length = vs.size) (h : ∀ (j : Nat) c v, xs[j]? = some c → vs[j]? = some v → VR w F ρ c v) : ArgsR w F ρ xs vs := ⟨hn, h⟩
theorem args_append {xs ys : List SV} {vs ws : Array Value} (h : ArgsR w F ρ xs vs) (h' : ArgsR w F ρ ys ws) : ArgsR w F ρ (xs ++ ys) (vs ++ ws) := by
  refine ⟨by simp [h.1, h'.1], fun j c v hc hv => ?_⟩
  rw [List.getElem?_append] at hc
  rw [Array.getElem?_append] at hv
  rw [h.1] at hc
  split at hc
  · rename_i hlt
    rw [if_pos hlt] at hv
    exact h.2 j c v hc hv
  · rename_i hlt
    rw [if_neg hlt] at hv
    exact h'.2 _ c v hc hv
theorem not_defer {o : Oper} {op : Op1} (h : cop C.P o.op = some op) : ∀ c, o.op ≠ .defer c := by
  intro c hc
  rw [hc] at h
  simp [cop] at h
theorem cop_call {P : Program} {o : Op} {f : Opd} {xs : List Opd} (h : cop P o = some (.call f xs)) : ∃ c, o = .call c ∧ ccall P c = some (.call f xs) := by
  unfold cop at h
  split at h
  case h_23 c => exact ⟨c, rfl, h⟩
  all_goals (repeat' split at h)
  all_goals (first | (cases h; done) | (simp [Option.map_eq_some_iff, cond_eq_ite] at h; done))
theorem ccall_call {P : Program} {c : Call} {f : Opd} {xs : List Opd} (h : ccall P c = some (.call f xs)) : ∃ g, c.callee = .value g ∧ copd g = some f ∧ copds c.args = some xs := by
  unfold ccall at h
  split at h
  · rename_i g hg
    split at h
    · rename_i f' xs' h1 h2
      cases h
      exact ⟨g, hg, h1, h2⟩
    · cases h
  · cases h
  · exfalso
    repeat' split at h
    all_goals (first | (cases h; done) | (simp [Option.map_eq_some_iff, cond_eq_ite] at h; done) | (repeat' split at h) )
    all_goals (first | (cases h; done) | (simp [Option.map_eq_some_iff, cond_eq_ite] at h; done))
/-- One operation, a call or none. -/
theorem step1_ok {rec : Rec} (hrec : RecOK C rec) {o : Oper} {op : Op1} (hop : cop C.P o.op = some op) (hs : step1 rec e H op = some (s, H')) (hr : HR C ρ F H w) (he : ER w F ρ e a.tmps)
    {ro : Option Nat} {n : Nat} {K : Act → World → Prop} {Q : Exit → Act → World → Prop} (hK : ∀ val w', Done C ρ F H w s H' val w' → K (a.put o.dst val) w') : o.wpIn (WF ro) n C.P a w K Q := by
  refine ⟨fun _ _ => trivial, ?_⟩
  rw [Oper.semAt_eq _ _ _ (not_defer hop)]
  by_cases hc : ∃ f xs, op = .call f xs
  · obtain ⟨f, xs, rfl⟩ := hc
    obtain ⟨c, ho, hcc⟩ := cop_call hop
    obtain ⟨g, hg, hf, hxs⟩ := ccall_call hcc
    obtain ⟨hn, hv⟩ := copds_vr hxs he
    have hargs : ArgsR w F ρ (xs.map (ev e)) (c.args.map a.eval) := ⟨by simpa using hn, hv⟩
    have hgv := copd_vr hf he
    simp only [step1] at hs
    unfold scall at hs
    have key : ∀ (S : Sem Next), (execOp a.eval o) = (do let d ← Deferred.ofValue (a.eval g) (c.args.map a.eval); invoke d.target d.args) := fun _ => by
      simp only [execOp, ho, resolve, hg]
    split at hs
    · rename_i f' cs hfn
      rw [hfn] at hgv
      generalize hgval : a.eval g = gv at *
      cases hgv with
      | fn hn2 hv2 =>
        rename_i vs
        have ha := args_append hargs ⟨hn2, hv2⟩
        obtain ⟨h1, h2⟩ := hrec.call _ _ _ _ _ hs ρ F w _ hr ha
        rw [key (execOp a.eval o)]
        have hx : (do let d ← Deferred.ofValue (Value.func (.func f') #[] vs) (c.args.map a.eval); invoke d.target d.args : Sem Next) = callFunc f' (c.args.map a.eval ++ vs) := by
          simp [Deferred.ofValue, invoke]
        rw [hx, h1]
        refine ⟨fun h => by simp at h, CallsIn.mono (h2 _) (fun e' w' he' => ?_)⟩
        obtain ⟨val, rfl, hd⟩ := he'
        exact hK val w' hd
    · rename_i b hfn
      rw [hfn] at hgv
      generalize hgval : a.eval g = gv at *
      cases hgv with
      | yld h ha =>
        rename_i l
        obtain ⟨f', tmps, as, bd, h1, h2⟩ := hrec.yld _ _ _ _ _ hs ρ F w _ l hr hargs h
        rw [key (execOp a.eval o)]
        have hx : (do let d ← Deferred.ofValue (Value.func (.yield l.blk) #[] #[]) (c.args.map a.eval); invoke d.target d.args : Sem Next) = Instr.yield l.blk (c.args.map a.eval) := by
          simp [Deferred.ofValue, invoke]
        rw [hx, h1]
        refine ⟨fun h => by simp at h, RoundIn.mono (h2 _) (fun e' w' he' => ?_)⟩
        obtain ⟨val, rfl, hd⟩ := he'
        exact hK val w' hd
    · cases hs
  · have hs' : sop e H op = some (s, H') := by
      unfold step1 at hs
      split at hs
      · exact absurd ⟨_, _, rfl⟩ hc
      · exact hs
    obtain ⟨val, w', h1, h2⟩ := ok_op hop hr he hs'
    rcases h1 with h1 | ⟨h1, rfl⟩
    · rw [h1]; exact hK _ _ h2
    · rw [h1]; exact hK _ _ h2
end
end Go.Sh
