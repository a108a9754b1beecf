/-
  THE SHADOW MACHINE, PART EV: the equations by which a proof evaluates it.
-/
import Derived.Test.YteohbocjhfcbdaaShZ
namespace Go.Sh
set_option linter.unusedSectionVars false
set_option linter.unnecessarySimpa false
set_option linter.unusedSimpArgs false
set_option linter.unusedVariables false
/-! ### Control -/
inductive KI where | code (c : Code1) | blk (id : Nat)
noncomputable def kont {R : Type} (rec : Rec) (fin : SEx → Env → Heap → Option R) : (K : List KI) → SEx → Env → Heap → Option R
  | [], x, e, H => fin x e H
  | .code b :: K, .normal, e, H => run rec b e H (kont rec fin K) ()
  | .code _ :: K, x, e, H => kont rec fin K x e H
  | .blk id :: K, .exit j, e, H => bif j == id then kont rec fin K .normal e H else kont rec fin K (.exit j) e H
  | .blk _ :: K, x, e, H => kont rec fin K x e H
noncomputable def runK {R : Type} (rec : Rec) (fin : SEx → Env → Heap → Option R) (c : Code1) (K : List KI) (e : Env) (H : Heap) (_ : Tok (fin, c, K)) : Option R := run rec c e H (kont rec fin K) ()
noncomputable def retK {R : Type} (rec : Rec) (fin : SEx → Env → Heap → Option R) (K : List KI) (x : SEx) (e : Env) (H : Heap) (_ : Tok (fin, K)) : Option R := kont rec fin K x e H
noncomputable section
variable {R : Type} (rec : Rec) (fin : SEx → Env → Heap → Option R) (K : List KI) (e : Env) (H : Heap)
theorem run_runK (c : Code1) (k : SEx → Env → Heap → Option R) : run rec c e H k () = runK rec k c [] e H () := Eq.trans rfl rfl
@[go_sem] theorem rk_skip (t) : runK rec fin .skip K e H t = retK rec fin K .normal e H () := Eq.trans rfl rfl
@[go_sem] theorem rk_ops (l t) : runK rec fin (.ops l) K e H t = runOps rec l e H (fun e H => retK rec fin K .normal e H ()) () := Eq.trans rfl rfl
@[go_sem] theorem rk_drawn (l t) : runK rec fin (.drawn l) K e H t = runDrawn rec l H.bl.length e H (fun e H => retK rec fin K .normal e H ()) () := Eq.trans rfl rfl
@[go_sem] theorem rk_seq (a b t) : runK rec fin (.seq a b) K e H t = runK rec fin a (.code b :: K) e H () := by
  show run rec a e H _ _ = run rec a e H _ _
  congr 1
  funext x e' H'
  cases x <;> rfl
@[go_sem] theorem rk_cond (c a b t) : runK rec fin (.cond c a b) K e H t = onBool (ev e c) (fun t => fork t (runK rec fin a K e H ()) (runK rec fin b K e H ()) ()) () := Eq.trans rfl rfl
@[go_sem] theorem rk_block (id a t) : runK rec fin (.block id a) K e H t = runK rec fin a (.blk id :: K) e H () := by
  show run rec a e H _ _ = run rec a e H _ _
  congr 1
  funext x e' H'
  cases x <;> rfl
@[go_sem] theorem rk_freeze (x t) : runK rec fin (.freeze x) K e H t = onSome (frzT H (get e x)) (fun r => retK rec fin K .normal ((x, r.1) :: e) r.2 ()) () := Eq.trans rfl rfl
@[go_sem] theorem rk_exit (id t) : runK rec fin (.exit id) K e H t = retK rec fin K (.exit id) e H () := Eq.trans rfl rfl
@[go_sem] theorem rk_ret (t) : runK rec fin .ret K e H t = retK rec fin K .ret e H () := Eq.trans rfl rfl
def roundF (p : LoopPol) (N : Nat) (H0 : Heap) (rec : Rec) (a : Code1) (s' : Env × Heap) : Option Out := (head1 p N H0 s').bind fun s' => run rec a s'.1 s'.2 (fun x e H => some (x, e, H)) ()
@[go_sem] theorem rk_loop (p a t) : runK rec fin (.loop p a) K e H t = onSome (virt1 p.virt e H) (fun s => onSome (loop1 (roundF p s.2.bl.length { bl := s.2.bl, esc := [], ro := s.2.ro } rec a) (s.1, { bl := s.2.bl, esc := [], ro := s.2.ro }))
    (fun o => retK rec fin K o.1 o.2.1 { bl := o.2.2.bl, esc := s.2.esc ++ o.2.2.esc, ro := o.2.2.ro } ()) ()) () := Eq.trans rfl rfl
@[go_sem] theorem rk_rangeF (f ps x y t) : runK rec fin (.rangeF f ps x y) K e H t = onSome (fcall rec (ev e f) [.yld H.bl.length] (hnew H (.loop ⟨e, ps, x, y⟩ .ready .normal))) (fun r =>
      match hget r.2 H.bl.length with
      | some (.loop q st pend) => match st with
        | .busy => none
        | _ => onSome (hset r.2 H.bl.length (.loop q .exhausted pend) 0) (fun H => retK rec fin K pend e H ()) ()
      | _ => none) () := Eq.trans rfl rfl
@[go_sem] theorem rt_nil (x t) : retK rec fin [] x e H t = fin x e H := Eq.trans rfl rfl
@[go_sem] theorem rt_code_normal (b t) : retK rec fin (.code b :: K) .normal e H t = runK rec fin b K e H () := Eq.trans rfl rfl
@[go_sem] theorem rt_code_ret (b t) : retK rec fin (.code b :: K) .ret e H t = retK rec fin K .ret e H () := Eq.trans rfl rfl
@[go_sem] theorem rt_code_exit (b id t) : retK rec fin (.code b :: K) (.exit id) e H t = retK rec fin K (.exit id) e H () := Eq.trans rfl rfl
@[go_sem] theorem rt_blk_normal (b t) : retK rec fin (.blk b :: K) .normal e H t = retK rec fin K .normal e H () := Eq.trans rfl rfl
@[go_sem] theorem rt_blk_ret (b t) : retK rec fin (.blk b :: K) .ret e H t = retK rec fin K .ret e H () := Eq.trans rfl rfl
@[go_sem] theorem rt_blk_exit (b id t) : retK rec fin (.blk b :: K) (.exit id) e H t = bif id == b then retK rec fin K .normal e H () else retK rec fin K (.exit id) e H () := Eq.trans rfl rfl
end
section
variable {R : Type}
@[go_sem] theorem fork_true (x y : R) (t : Tok (x, y)) : fork true x y t = x := Eq.trans rfl rfl
@[go_sem] theorem fork_false (x y : R) (t : Tok (x, y)) : fork false x y t = y := Eq.trans rfl rfl
theorem fork_split {b : Bool} {x y r : R} {t : Tok (x, y)} (h1 : b = true → x = r) (h2 : b = false → y = r) : fork b x y t = r := by
  cases b
  · exact h2 rfl
  · exact h1 rfl
@[go_sem] theorem onGuard_bool (b w : Bool) (f : Bool → Option R) (t : Tok f) : onGuard (.bool b) w f t = f (b == w) := Eq.trans rfl rfl
@[go_sem] theorem onGuard_skp (w : Bool) (f : Bool → Option R) (t : Tok f) : onGuard .skp w f t = f false := Eq.trans rfl rfl
@[go_sem] theorem onBool_bool (b : Bool) (f : Bool → Option R) (t : Tok f) : onBool (.bool b) f t = f b := Eq.trans rfl rfl
@[go_sem] theorem onSome_some {A : Type} (v : A) (f : A → Option R) (t : Tok f) : onSome (some v) f t = f v := Eq.trans rfl rfl
@[go_sem] theorem onSome_map {A B : Type} (v : Option B) (g : B → A) (f : A → Option R) (t : Tok f) : onSome (v.map g) f t = onSome v (fun x => f (g x)) () := by cases v <;> rfl
@[go_sem] theorem onSome_bind {A B : Type} (v : Option B) (g : B → Option A) (f : A → Option R) (t : Tok f) : onSome (v.bind g) f t = onSome v (fun x => onSome (g x) f ()) () := by cases v <;> rfl
@[go_sem] theorem cnd_true {A : Type} (x y : A) : (bif true then x else y) = x := Eq.trans rfl rfl
@[go_sem] theorem cnd_false {A : Type} (x y : A) : (bif false then x else y) = y := Eq.trans rfl rfl
end
/-! ### Slots -/
@[go_sem] theorem ev_t (e : Env) (n : Nat) : ev e (.t n) = get e n := Eq.trans rfl rfl
@[go_sem] theorem ev_c (e : Env) (v : SV) : ev e (.c v) = v := Eq.trans rfl rfl
@[go_sem] theorem get_cons (j i : Nat) (v : SV) (e : Env) : get ((j, v) :: e) i = bif i == j then v else get e i := Eq.trans rfl rfl
@[go_sem] theorem bind1_none (e : Env) (v : SV) : bind1 e none v = e := Eq.trans rfl rfl
@[go_sem] theorem bind1_some (e : Env) (d : Nat) (v : SV) : bind1 e (some d) v = (d, v) :: e := Eq.trans rfl rfl
@[go_sem] theorem env0_cons (x : SV) (r : List SV) : env0 (x :: r) = (0, x) :: env0.go 1 r := Eq.trans rfl rfl
@[go_sem] theorem env0_nil : env0 [] = [] := Eq.trans rfl rfl
@[go_sem] theorem go_cons (i : Nat) (x : SV) (r : List SV) : env0.go i (x :: r) = (i, x) :: env0.go (i + 1) r := Eq.trans rfl rfl
@[go_sem] theorem go_nil (i : Nat) : env0.go i [] = [] := Eq.trans rfl rfl
/-! ### Regions -/
section
variable {R : Type} (rec : Rec) (e : Env) (H : Heap) (k : Env → Heap → Option R)
@[go_sem] theorem ro_nil (t) : runOps rec [] e H k t = k e H := Eq.trans rfl rfl
@[go_sem] theorem ro_cons (d : Option Nat) (op : Op1) (os : List Oper1) (t) : runOps rec (⟨d, op, none⟩ :: os) e H k t = onSome (step1 rec e H op) (fun r => runOps rec os (bind1 e d r.1) r.2 k ()) () := Eq.trans rfl rfl
@[go_sem] theorem ro_consg (d : Option Nat) (x : Nat) (w : Bool) (op : Op1) (os : List Oper1) (t) : runOps rec (⟨d, op, some (x, w)⟩ :: os) e H k t = onGuard (get e x) w (fun b => fork b (onSome (step1 rec e H op) (fun r => runOps rec os (bind1 e d r.1) r.2 k ()) ())
      (runOps rec os (bind1 e d .skp) H k ()) ()) () := Eq.trans rfl rfl
@[go_sem] theorem rd_nil (N t) : runDrawn rec [] N e H k t = k e H := Eq.trans rfl rfl
@[go_sem] theorem rd_cons (d : Option Nat) (op : Op1) (q : Draw1) (os : List (Oper1 × Draw1)) (N t) : runDrawn rec ((⟨d, op, none⟩, q) :: os) N e H k t = onSome (step1d rec N q e H op) (fun r => runDrawn rec os (nextN q N r.2) (bind1 e d r.1) r.2 k ()) () := Eq.trans rfl rfl
@[go_sem] theorem rd_consg (d : Option Nat) (x : Nat) (w : Bool) (op : Op1) (q : Draw1) (os : List (Oper1 × Draw1)) (N t) : runDrawn rec ((⟨d, op, some (x, w)⟩, q) :: os) N e H k t =
    onGuard (get e x) w (fun b => fork b (onSome (step1d rec N q e H op) (fun r => runDrawn rec os (nextN q N r.2) (bind1 e d r.1) r.2 k ()) ())
      (bif skip1 q then runDrawn rec os (nextN q N H) (bind1 e d .skp) H k () else none) ()) () := Eq.trans rfl rfl
@[go_sem] theorem nx_pure (h n o N) : nextN ⟨.pure, h, n, o⟩ N H = N := Eq.trans rfl rfl
@[go_sem] theorem nx_seg (h n o N) : nextN ⟨.seg, h, n, o⟩ N H = N := Eq.trans rfl rfl
@[go_sem] theorem nx_bar (h n o N) : nextN ⟨.bar, h, n, o⟩ N H = H.bl.length := Eq.trans rfl rfl
@[go_sem] theorem sk_pure (h n o) : skip1 ⟨.pure, h, n, o⟩ = true := Eq.trans rfl rfl
@[go_sem] theorem sk_bar (h n o) : skip1 ⟨.bar, h, n, o⟩ = true := Eq.trans rfl rfl
@[go_sem] theorem sk_seg (h o) : skip1 ⟨.seg, h, 0, o⟩ = true := Eq.trans rfl rfl
@[go_sem] theorem sd_pure (op N h n o) : step1d rec N ⟨.pure, h, n, o⟩ e H op = step1 rec e H op := Eq.trans rfl rfl
/-- Operations that make nothing and write nothing. -/
def reads1 : Op1 → Bool
  | .load .. | .faddr .. | .iaddrS .. | .iaddrA .. | .len .. | .sliceL .. | .nilChk .. => true
  | _ => false
theorem reads_eq {op : Op1} (h : reads1 op = true) : ∃ g : List SBlk → Option SV, ∀ H : Heap, step1 rec e H op = (g H.bl).map (·, H) := by
  cases op <;> try (exfalso; simp only [reads1, Bool.false_eq_true] at h; done)
  case load ag n a => exact ⟨fun bl => sload ag n ⟨bl, [], 0⟩ (ev e a), fun H => by
    simp only [step1, sop]; congr 1⟩
  case nilChk x => exact ⟨fun bl => bif cur ⟨bl, [], 0⟩ (ev e x) then nilChk1 (ev e x) else none, fun H => by
    simp only [step1, sop]
    have : cur H (ev e x) = cur ⟨H.bl, [], 0⟩ (ev e x) := rfl
    rw [this]; cases cur ⟨H.bl, [], 0⟩ (ev e x) <;> rfl⟩
  case sliceL esz x lo hi mx => exact ⟨fun bl => bif curZ ⟨bl, [], 0⟩ esz (ev e x) then sslice (ev e x) (lo.map (ev e)) (hi.map (ev e)) (mx.map (ev e)) else none, fun H => by
    simp only [step1, sop]
    have : curZ H esz (ev e x) = curZ ⟨H.bl, [], 0⟩ esz (ev e x) := rfl
    rw [this]; cases curZ ⟨H.bl, [], 0⟩ esz (ev e x) <;> rfl⟩
  case faddr off x => exact ⟨fun bl => bif cur ⟨bl, [], 0⟩ (ev e x) then faddr1 off (ev e x) else none, fun H => by
    simp only [step1, sop]
    have : cur H (ev e x) = cur ⟨H.bl, [], 0⟩ (ev e x) := rfl
    rw [this]; cases cur ⟨H.bl, [], 0⟩ (ev e x) <;> rfl⟩
  case iaddrS esz x ix => exact ⟨fun bl => bif curZ ⟨bl, [], 0⟩ esz (ev e x) then siaddr (ev e x) (ev e ix) else none, fun H => by
    simp only [step1, sop]
    have : curZ H esz (ev e x) = curZ ⟨H.bl, [], 0⟩ esz (ev e x) := rfl
    rw [this]; cases curZ ⟨H.bl, [], 0⟩ esz (ev e x) <;> rfl⟩
  case iaddrA len esz x ix => exact ⟨fun bl => bif cur ⟨bl, [], 0⟩ (ev e x) then (sidx len (ev e ix)).bind fun i => faddr1 (i * esz) (ev e x) else none, fun H => by
    simp only [step1, sop]
    have : cur H (ev e x) = cur ⟨H.bl, [], 0⟩ (ev e x) := rfl
    rw [this]; cases cur ⟨H.bl, [], 0⟩ (ev e x) with
    | true => simp only [cond_true]; cases sidx len (ev e ix) <;> rfl
    | false => rfl⟩
  case len x => exact ⟨fun bl => bif cur ⟨bl, [], 0⟩ (ev e x) then (lenL (ev e x)).map fun (n : Nat) => .int .i64 n else none, fun H => by
    simp only [step1, sop]
    have : cur H (ev e x) = cur ⟨H.bl, [], 0⟩ (ev e x) := rfl
    rw [this]; cases cur ⟨H.bl, [], 0⟩ (ev e x) with
    | true => simp only [cond_true]; cases lenL (ev e x) <;> rfl
    | false => rfl⟩
theorem sd_read {op : Op1} (h : reads1 op = true) (N o) : step1d rec N ⟨.seg, [], 0, o⟩ e H op = step1 rec e H op := by
  obtain ⟨g, hg⟩ := reads_eq rec e h
  simp only [step1d, hg, hide1, List.foldl_nil]
  cases hq : g H.bl with
  | none => rfl
  | some v => simp
@[go_sem] theorem sd_load (N o ag n a) : step1d rec N ⟨.seg, [], 0, o⟩ e H (.load ag n a) = step1 rec e H (.load ag n a) := sd_read rec e H (by rfl) N o
@[go_sem] theorem sd_faddr (N o n a) : step1d rec N ⟨.seg, [], 0, o⟩ e H (.faddr n a) = step1 rec e H (.faddr n a) := sd_read rec e H (by rfl) N o
@[go_sem] theorem sd_iaddrS (N o n a b) : step1d rec N ⟨.seg, [], 0, o⟩ e H (.iaddrS n a b) = step1 rec e H (.iaddrS n a b) := sd_read rec e H (by rfl) N o
@[go_sem] theorem sd_iaddrA (N o n l a b) : step1d rec N ⟨.seg, [], 0, o⟩ e H (.iaddrA l n a b) = step1 rec e H (.iaddrA l n a b) := sd_read rec e H (by rfl) N o
@[go_sem] theorem sd_len (N o a) : step1d rec N ⟨.seg, [], 0, o⟩ e H (.len a) = step1 rec e H (.len a) := sd_read rec e H (by rfl) N o
@[go_sem] theorem sd_sliceL (N o n a x y z) : step1d rec N ⟨.seg, [], 0, o⟩ e H (.sliceL n a x y z) = step1 rec e H (.sliceL n a x y z) := sd_read rec e H (by rfl) N o
@[go_sem] theorem sd_nilChk (N o a) : step1d rec N ⟨.seg, [], 0, o⟩ e H (.nilChk a) = step1 rec e H (.nilChk a) := sd_read rec e H (by rfl) N o
@[go_sem] theorem sd_call (N h n o f xs) : step1d rec N ⟨.seg, h, n, o⟩ e H (.call f xs) = onSome (scall rec (ev e f) (xs.map (ev e)) { bl := hide1 N h H.bl, esc := [], ro := H.bl.length }) (fun r =>
      bif r.2.bl.length == H.bl.length + n && r.2.esc.isEmpty then some (r.1, { bl := H.bl ++ r.2.bl.drop H.bl.length, esc := H.esc, ro := H.ro }) else none) () := Eq.trans rfl (by cases hq : scall rec (ev e f) (xs.map (ev e)) { bl := hide1 N h H.bl, esc := [], ro := H.bl.length } <;> simp [onSome, step1d, step1, hq])
@[go_sem] theorem sd_bar (op N h n o) : step1d rec N ⟨.bar, h, n, o⟩ e H op = onSome (step1 rec e H op) (fun r => bif decide (H.bl.length ≤ r.2.bl.length) then some r else none) () := by
  show (step1 rec e H op).bind _ = _
  cases step1 rec e H op <;> rfl
end
end Go.Sh
