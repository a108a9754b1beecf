/-
  THE SHADOW MACHINE, PART LAW: a law's row, out of what the shadow machine says of it.
-/
import Derived.Test.YteohbocjhfcbdaaShIn
import Derived.ReadAgain
import Derived.Handed
import Derived.JoinedOf
namespace Go.Sh
set_option linter.unusedSectionVars false
set_option linter.unnecessarySimpa false
set_option linter.unusedSimpArgs false
set_option linter.unusedVariables false
section
variable {H : Type} {enc : TypeId × Value → H} {P : Program} {w w' : World}
theorem trodAll_carry {base : Nat} {spare : Nat → Bool} {held : Bool} : ∀ {ts : List TypeId} {vs : List Value} {ds : List (DataW H)} {ps : List MemPlace}, DataW.TrodAll enc P w base spare held ts vs ds ps → (∀ p ∈ ps, w.sameAt w' p) → DataW.TrodAll enc P w' base spare held ts vs ds ps
  | [], [], [], _, h, _ => h
  | _ :: _, _ :: _, _ :: _, _, ⟨p, q, ⟨n, h1⟩, h2, e⟩, hs => ⟨p, q, ⟨n, DataW.trod_carry n _ _ _ h1 (fun x hx => hs x (by rw [e]; exact List.mem_append_left _ hx))⟩, trodAll_carry h2 (fun x hx => hs x (by rw [e]; exact List.mem_append_right _ hx)), e⟩
  | [], _ :: _, _, _, h, _ => by simp [DataW.TrodAll] at h
  | [], [], _ :: _, _, h, _ => by simp [DataW.TrodAll] at h
  | _ :: _, [], _, _, h, _ => by simp [DataW.TrodAll] at h
  | _ :: _, _ :: _, [], _, h, _ => by simp [DataW.TrodAll] at h
theorem sameAt_of (hh : ∀ B, B < w.heap.size → w'.heap[B]? = w.heap[B]?) {p : MemPlace} (hp : p.block < w.heap.size) : w.sameAt w' p := by
  cases p with
  | cell b off => simp only [World.sameAt, World.cell?, hh b hp]
  | map b => exact hh b hp
theorem kept_of (hh : ∀ B, B < w.heap.size → w'.heap[B]? = w.heap[B]?) (ho : w'.os = w.os ∧ w'.output = w.output) (may : MemPlace → Prop) : w.keptBut w' may := by
  refine ⟨ho.1, ho.2, fun i hi => ?_⟩
  rw [hh i hi]
  cases hq : w.heap[i]? with
  | none => simp
  | some o => cases o <;> simp
end
/-- THE ROW OF A LAW. -/
theorem law_row {Ck : Checked} (pol : Pol) {os : Os} {f : FuncId} {fn : Func} {s : ChangeSpec} {conds : List PathCond} {apart fresh handsOn : Bool} {ads : List (Bool × List DT)} {tb : TypeId} {H : Type} {enc : TypeId × Value → H}
    (own : ownKnob Ck.prog.godebug = none) (started : os.Started) (noInit : Ck.prog.inits.idxOf? f = none) (hfn : Ck.prog.funcs[f]? = some fn)
    (witness : ∃ (w : World) (tape : Tape) (i : Input), w.os = os ∧ (w.forCall tape i).Shaped Ck.prog ∧ i.vars = [] ∧ Input.okWide Ck.prog (w.forCall tape i) .any w.heap.size f i ∧
      s.pre6 enc Ck.prog fn conds apart (w.forCall tape i).memory i.args ∧ ({} : Assume).holds Ck.prog (lone (Frame.enter Ck.prog f i.args .normal) [] (w.forCall tape i)))
    (hmix : Ck.prog.follows .mixedOrders = true) (hlaid : laidOutB Ck.prog = true) (hmaps : mapsRowed Ck.prog = true)
    (hfull : ((List.range Ck.prog.types.size).all fun t => match Ck.prog.underlying t with | some (.slice e) => decide (0 < Ck.prog.cellsOf e) | _ => true) = true)
    (hpar : ∀ t ∈ fn.params.toList, t < Ck.prog.types.size)
    (hargs : fn.params.toList.map (argD Ck.prog) = ads.map some) (hres : fn.resultTypes = #[tb]) (hb : Ck.prog.underlying tb = some .bool) (hvars : s.vars = [])
    (hspec : ∀ (H : Type) (ds : List (DataW H)), ds.length = fn.params.toList.length → s.fn H ds = { results := [.lit (.bool true)], args := ds })
    (hlaw : ∀ xs, FitsAll ads xs → ∃ m, call1 (cfun Ck.prog pol) m (.fn f) xs heap0 = some (.bool true, heap0)) :
    ReturnsInHanded {} Ck os f .any (s.pre6 enc Ck.prog fn conds apart) (s.post enc Ck.prog fn apart fresh handsOn false) := by
  refine returnsInHanded_of_change own started noInit hfn witness ?_
  intro W base args ds gs before hval hW hcnd _
  have hW' := hW
  obtain ⟨p, q, hA, hV, rfl, hfz, hnd⟩ := hW
  rw [hvars] at hV
  have hgs : gs = [] ∧ q = [] := by
    cases gs with
    | nil => exact ⟨rfl, hV⟩
    | cons g gs => simp [DataW.TrodVars] at hV
  obtain ⟨rfl, rfl⟩ := hgs
  obtain ⟨xs, h1, h2, h3, h4⟩ := args_sv (spare := fun _ => true) (held := true) fn.params.toList args.toList ds p ads hA hargs (fun j t v ht hv => hval j t v (by simpa using ht) (by simpa using hv))
  obtain ⟨m, hm⟩ := hlaw xs h3
  have hHR : HR ⟨Ck.prog, pol⟩ noMap (· < W.heap.size) heap0 W := ⟨(fun b l h => by cases h), (fun b x h => by simp [heap0] at h), (fun b b' l l' h => by cases h.2.1), (fun b l h => by cases h.2.1), fun B hB => hB⟩
  have hcall := ((rec_ok (C := ⟨Ck.prog, pol⟩) hmix (fun _ _ h => h) m).call f xs heap0 (.bool true) heap0 hm noMap (· < W.heap.size) W args hHR ⟨by simpa using h1, fun j c v hc hv => h2 j c v hc (by simpa using hv)⟩).2 0
  refine (callsIn_wide.1 hcall).mono (fun e W' he => ?_)
  obtain ⟨val, rfl, ρ', F', d1, d2, d3⟩ := he
  have hv := vr_bool d1
  subst hv
  have hno : ∀ b l, ¬ Own noMap heap0 b l := fun b l h => by cases h.2.1
  have hh : ∀ B, B < W.heap.size → W'.heap[B]? = W.heap[B]? := fun B hB => d3.frame B hB (fun b l ho => absurd ho (hno b l))
  have hlt : ∀ x ∈ p, x.block < W.heap.size := fun x hx => hW'.lt x (by simpa using hx)
  refine ⟨_, rfl, ds, [], p ++ [], [], p, [], hW', ?_, ?_, ?_, kept_of hh d3.out _, fun h => by cases h⟩
  · rw [hres, hspec H (ds ++ []) (by simpa using h4)]
    simp only [List.size_toArray, List.length_cons, List.length_nil, Value.resultList]
    exact ⟨[], [], RowKit.shut_bool hb true, rfl, rfl⟩
  · rw [hspec H (ds ++ []) (by simpa using h4)]
    simp only [List.append_nil]
    refine trodAll_carry ?_ (fun x hx => sameAt_of hh (hlt x hx))
    exact DataW.TrodAll.respare (kids_rows hlaid hmaps) (fun t e ht hu => slices_full_of Ck.prog hfull t e ht hu) hpar hA (fun x hx => by simpa using hlt x hx)
  · rw [hspec H (ds ++ []) (by simpa using h4), hvars]
    rfl
end Go.Sh
