/- A part of the proof: texts ShXp, ShY, ShZ, ShEv. -/
import Derived.Test.YtlkjiffohmkidaaGreatB5
namespace Go.Sh
set_option linter.unusedSectionVars false
set_option linter.unnecessarySimpa false
set_option linter.unusedSimpArgs false
set_option linter.unusedVariables false
set_option maxRecDepth 100000
set_option maxHeartbeats 4000000
section
section
variable{rec:Rec}{e e' e1 e2:Env}{H H' H1 H2:ae}
def ft(rec:Rec)(o:ak)(e:Env)(H:ae):Option (SV×ae):=match o.g with
 |none=>ai rec e H o.op
 |some (t,w)=>match get e t with
  | .bool b=>bif b==w then ai rec e H o.op else some (.gJ,H)
  | .gJ=>some (.gJ,H)
  |_=>none
def stepG(rec:Rec)(o:ak)(e:Env)(H:ae):Option (Env×ae):=(ft rec o e H).map fun r=>(bB e o.dst r.1,r.2)
theorem rk{R:Type}{o:ak}{os:List ak}{k:Env→ae→Option R}:bM rec (o::os) e H k ()=(stepG rec o e H).bind fun s=>bM rec os s.1 s.2 k ():=by
 unfold stepG ft
 cases hg:o.g with
 |none=>
  simp only[bM,hg]
  cases ai rec e H o.op<;>rfl
 |some p=>
  obtain⟨t,w⟩:=p
  simp only[bM,hg,eE,fork]
  cases get e t<;>try rfl
  rename_i b
  simp only
  cases(b==w)with
  |true=>cases ai rec e H o.op<;>rfl
  |false=>rfl
def cg(rec:Rec):List ak→Env→ae→Option (Env×ae)
 |[],e,H=>some (e,H)
 |o::os,e,H=>(stepG rec o e H).bind fun s=>cg rec os s.1 s.2
theorem ks{R:Type}{k:Env→ae→Option R}:∀(os:List ak) (e:Env) (H:ae),bM rec os e H k ()=(cg rec os e H).bind fun s=>k s.1 s.2
 |[],e,H=>rfl
 |o::os,e,H=>by
  rw[rk,cg]
  cases stepG rec o e H with
  |none=>rfl
  |some s=>exact ks os s.1 s.2
theorem cC:∀(a b:List ak) (e:Env) (H:ae),cg rec (a++b) e H=(cg rec a e H).bind fun s=>cg rec b s.1 s.2
 |[],b,e,H=>rfl
 |o::a,b,e,H=>by
  rw[Oy,cg,cg]
  cases stepG rec o e H with
  |none=>rfl
  |some s=>exact cC a b s.1 s.2
def qP(e e':Env):Prop:=∀t,get e t=get e' t
theorem qP.bind(h:qP e e')(d:Option Nat)(v:SV):qP (bB e d v) (bB e' d v):=by
 intro t
 cases d with
 |none=>exact h t
 |some d=>
  simp only[bB,get]
  rw[h t]
theorem ff{o:ak}(h:∀t∈br o,get e t=get e' t):ft rec o e H=ft rec o e' H:=by
 have h1:=lX (rec:=rec) (H:=H) (o:=o) (e:=e) (e':=e') h
 unfold ft
 cases hg:o.g with
 |none=>exact h1
 |some p=>
  obtain⟨t,w⟩:=p
  have ht:get e t=get e' t:=h t (by unfold br;rw[hg];simp)
  simp only[ht,h1]
theorem o9{o:ak}(h:qP e e')(hs:stepG rec o e' H=some (e2,H2)):∃e1,stepG rec o e H=some (e1,H2)∧qP e1 e2:=by
 unfold stepG at hs⊢
 rw[ff (e:=e) (e':=e') (fun t _=>h t)]
 obtain⟨r,h1,h2⟩:=NP.1 hs
 cases h2
 exact⟨_,by rw[h1];rfl,h.bind _ _⟩
theorem ny:∀(l:List ak) {e e':Env} {H:ae},qP e e'→cg rec l e' H=some (e2,H2)→∃e1,cg rec l e H=some (e1,H2)∧qP e1 e2
 |[],e,e',H,h,hs=>by
  simp only[cg,N1,N3]at hs
  obtain⟨rfl,rfl⟩:=hs
  exact⟨e,rfl,h⟩
 |o::l,e,e',H,h,hs=>by
  rw[cg]at hs
  obtain⟨s,h1,h2⟩:=NS.1 hs
  obtain⟨e3,h3,h4⟩:=o9 h h1
  obtain⟨e4,h5,h6⟩:=ny l h4 h2
  exact⟨e4,by rw[cg,h3];exact h5,h6⟩
theorem iq{o:ak}{v:SV}(hp:fh o.op=true)(h:ft rec o e H=some (v,H')):H'=H∧∀H2,ft rec o e H2=some (v,H2):=by
 unfold ft at h⊢
 split at h
 ·exact kK hp h
 ·rename_i t w hg
  split at h
  ·rename_i b hb
   cases hbw:(b==w)with
   |true=>rw[hbw]at h;exact kK hp h
   |false=>rw[hbw]at h;cases h;exact⟨rfl,fun _=>rfl⟩
  ·cases h;exact⟨rfl,fun _=>rfl⟩
  ·cases h
theorem ke{a b:ak}(h:ed a b=true):(∀d,a.dst=some d→d∉br b∧b.dst≠some d)∧(∀d,b.dst=some d→d∉br a):=by
 unfold ed at h
 simp only[Ot,Bool.or_eq_false_iff]at h
 refine⟨fun d hd=>?_,fun d hd=>?_⟩
 ·have:=h.1
  rw[hd]at this
  simp only[Bool.or_eq_false_iff,Pr]at this
  exact⟨by simpa using this.1,this.2⟩
 ·have:=h.2
  rw[hd]at this
  simpa using this
theorem fQ{d:Option Nat}{v:SV}{t:Nat}(h:∀x,d=some x→x≠t):get (bB e d v) t=get e t:=by
 cases d with
 |none=>rfl
 |some x=>
  have:(t==x)=false:=by simpa using(h x rfl).symm
  simp only[bB,get,this,Oa]
theorem yL{x y:ak}(hi:ed x y=true∨ed y x=true)(hp:fh x.op=true∨fh y.op=true)(h1:stepG rec y e H=some (e1,H1))(h2:stepG rec x e1 H1=some (e2,H2)) :
 ∃e3 H3 e4,stepG rec x e H=some (e3,H3)∧stepG rec y e3 H3=some (e4,H2)∧qP e4 e2:=by
 have hxy:(∀d,x.dst=some d→d∉br y∧y.dst≠some d)∧(∀d,y.dst=some d→d∉br x∧x.dst≠some d):=by
  rcases hi with hi|hi
  ·obtain⟨a,b⟩:=ke hi
   exact⟨a,fun d hd=>⟨b d hd,fun hx=>(a d hx).2 hd⟩⟩
  ·obtain⟨a,b⟩:=ke hi
   exact⟨fun d hd=>⟨b d hd,fun hy=>(a d hy).2 hd⟩,a⟩
 obtain⟨hx,hy⟩:=hxy
 unfold stepG at h1 h2
 obtain⟨⟨vy,K1⟩,k1,k2⟩:=NP.1 h1
 obtain⟨⟨vx,K2⟩,k3,k4⟩:=NP.1 h2
 simp only[N3]at k2 k4
 obtain⟨rfl,rfl⟩:=k2
 obtain⟨rfl,rfl⟩:=k4
 have gx:∀v t,t∈br x→get (bB e y.dst v) t=get e t:=fun v t ht=>fQ (fun d hd hdt=>(hy d hd).1 (hdt▸ht))
 have gy:∀v t,t∈br y→get (bB e x.dst v) t=get e t:=fun v t ht=>fQ (fun d hd hdt=>(hx d hd).1 (hdt▸ht))
 rw[ff (e':=e) (gx vy)]at k3
 have heq:qP (bB (bB e x.dst vx) y.dst vy) (bB (bB e y.dst vy) x.dst vx):=by
  intro t
  cases hdx:x.dst with
  |none=>rfl
  |some a=>
   cases hdy:y.dst with
   |none=>rfl
   |some b=>
    have hab:a≠b:=fun h=>(hx a hdx).2 (by rw[hdy,h])
    simp only[bB,get]
    by_cases ha:(t==a)=true
    ·by_cases hb:(t==b)=true
     ·exfalso;apply hab
      rw[O1]at ha hb;omega
     ·rw[P5]at hb;rw[ha,hb];rfl
    ·rw[P5]at ha;rw[ha];rfl
 rcases hp with hp|hp
 ·obtain⟨rfl,k5⟩:=iq hp k3
  refine⟨_,H,_,by unfold stepG;rw[k5 H];rfl,?_,heq⟩
  unfold stepG
  rw[ff (e':=e) (gy vx),k1];rfl
 ·obtain⟨rfl,k5⟩:=iq hp k1
  refine⟨_,K2,_,by unfold stepG;rw[k3];rfl,?_,heq⟩
  unfold stepG
  rw[ff (e':=e) (gy vx),k5 K2];rfl
theorem xR{x:ak}{b:List ak}:∀(a:List ak) {e:Env} {H:ae},(∀y∈a,(ed x y=true∨ed y x=true)∧(fh x.op=true∨fh y.op=true))→cg rec (a++x::b) e H=some (e2,H2)→
 ∃e1,cg rec (x::(a++b)) e H=some (e1,H2)∧qP e1 e2
 |[],e,H,_,h=>⟨_,h,fun _=>rfl⟩
 |y::a,e,H,hi,h=>by
  rw[Oy,cg]at h
  obtain⟨s,h1,h2⟩:=NS.1 h
  obtain⟨e3,h3,h4⟩:=xR a (fun z hz=>hi z (OW _ hz)) h2
  rw[cg]at h3
  obtain⟨s2,h5,h6⟩:=NS.1 h3
  obtain⟨c1,c2⟩:=hi y (Oi ..)
  obtain⟨f1,K1,f2,g1,g2,g3⟩:=yL (e:=e) (H:=H) c1 c2 (by rw[h1]) (by rw[h5])
  obtain⟨f3,g4,g5⟩:=ny (a++b) g3 h6
  refine⟨f3,?_,fun t=>(g5 t).trans (h4 t)⟩
  rw[cg,g1]
  show cg rec (y::(a++b)) f1 K1=_
  rw[cg,g2]
  exact g4
end
section
variable{rec:Rec}{l:List ak}{bs:List Nat}
def dep(bs:List Nat)(i j:Nat):Prop:=(bs.getD j 0).testBit i=true
theorem cd(l:List ak):∀a b:List Nat,cq l (a++b)=cq l a++cq l b
 |[],b=>rfl
 |i::a,b=>by
  simp only[Oy,cq,cd l a b]
  cases l[i]?<;>rfl
theorem eh{i:Nat}{o:ak}{r:List Nat}(h:l[i]?=some o):cq l (i::r)=o::cq l r:=by
 rw[cq,h];rfl
theorem fi{o:ak}:∀{a:List Nat},o∈cq l a→∃i∈a,l[i]?=some o
 |[],h=>by simp[cq]at h
 |i::a,h=>by
  simp only[cq]at h
  cases hl:l[i]? with
  |none=>
   rw[hl]at h
   obtain⟨j,h1,h2⟩:=fi h
   exact⟨j,OW _ h1,h2⟩
  |some o'=>
   rw[hl]at h
   simp only[zP,O9]at h
   rcases h with rfl|h
   ·exact⟨i,Oi ..,hl⟩
   ·obtain⟨j,h1,h2⟩:=fi h
    exact⟨j,OW _ h1,h2⟩
theorem reduce(hind:∀i j a b,l[i]?=some a→l[j]?=some b→i≠j→dep bs i j∨dep bs j i∨ed a b=true∨ed b a=true) :
 ∀(τ σ:List Nat),(∀i∈τ,i<l.length)→τ.Nodup→τ.Perm σ→τ.Pairwise (fun j i=>¬dep bs i j)→σ.Pairwise (fun j i=>¬dep bs i j)→τ.filter (gi l)=σ.filter (gi l)→
  ∀{e e' e2:Env} {H H2:ae},qP e e'→cg rec (cq l σ) e' H=some (e2,H2)→∃e1,cg rec (cq l τ) e H=some (e1,H2)∧qP e1 e2
 |[],σ,_,_,hp,_,_,_,e,e',e2,H,H2,he,h=>by
  have:σ=[]:=hp.nil_eq.symm
  subst this
  exact ny _ he h
 |x::τ,σ,hlt,hnd,hp,h1,h2,hf,e,e',e2,H,H2,he,h=>by
  have hx:x∈σ:=hp.mem_iff.1 (Oi ..)
  obtain⟨a,b,rfl⟩:=List.append_of_mem hx
  obtain⟨ox,hox⟩:∃ox,l[x]?=some ox:=⟨_,N4 (hlt x (Oi ..))⟩
  have hnd2:(a++x::b).Nodup:=hp.nodup_iff.1 hnd
  have hxa:x∉a:=by
   intro hxa
   rw[Ps]at hnd2
   exact hnd2.2.2 x hxa x (Oi ..) rfl
  have hpure:gi l x=true→∀y∈a,gi l y=false:=by
   intro hn y hy
   rw[PX hn,Oj,PX hn]at hf
   cases ha:a.filter (gi l)with
   |nil=>
    cases hny:gi l y with
    |false=>rfl
    |true=>
     have:y∈a.filter (gi l):=Pf.2 ⟨hy,hny⟩
     rw[ha]at this;cases this
   |cons z r=>
    rw[ha]at hf
    simp only[Oy,Q8]at hf
    have hz:z∈a.filter (gi l):=by rw[ha];exact Oi ..
    exact absurd (hf.1▸(Pf.1 hz).1) hxa
  have hτ:τ.Perm (a++b):=(hp.trans List.perm_middle).cons_inv
  rw[cd,eh hox]at h
  obtain⟨e3,g1,g2⟩:=xR (cq l a) (fun o ho=>by
   obtain⟨y,hy,hoy⟩:=fi ho
   have hne:y≠x:=fun h=>hxa (h▸hy)
   have hyt:y∈τ:=hτ.mem_iff.2 (Pj _ hy)
   have q1:¬dep bs y x:=(PI.1 h1).1 y hyt
   have q2:¬dep bs x y:=by
    rw[Pt]at h2
    exact h2.2.2 y hy x (Oi ..)
   refine⟨?_,?_⟩
   ·rcases hind x y ox o hox hoy (Ne.symm hne)with h|h|h|h
    ·exact absurd h q2
    ·exact absurd h q1
    ·exact .inl h
    ·exact .inr h
   ·cases hnx:gi l x with
    |false=>
     left
     unfold gi at hnx;rw[hox]at hnx;simpa using hnx
    |true=>
     right
     have:=hpure hnx y hy
     unfold gi at this;rw[hoy]at this;simpa using this) h
  rw[←cd]at g1
  rw[eh hox,cg]
  rw[cg]at g1
  obtain⟨s,k1,k2⟩:=NS.1 g1
  obtain⟨e4,k3,k4⟩:=o9 he (show stepG rec ox e' H=some (s.1,s.2)from k1)
  have hf2:τ.filter (gi l)=(a++b).filter (gi l):=by
   cases hnx:gi l x with
   |false=>
    rw[List.filter_cons_of_neg (by simp[hnx]),Oj,List.filter_cons_of_neg (by simp[hnx]),←Oj]at hf
    exact hf
   |true=>
    have ha:a.filter (gi l)=[]:=by
     apply List.filter_eq_nil_iff.2
     intro y hy
     rw[hpure hnx y hy];simp
    rw[PX hnx,Oj,PX hnx,ha]at hf
    simp only[PR,Q8,true_and]at hf
    rw[Oj,ha,PR];exact hf
  have hsub:(a++b).Sublist (a++x::b):=List.Sublist.append_left (List.sublist_cons_self x b) a
  obtain⟨e5,k5,k6⟩:=reduce hind τ (a++b) (fun i hi=>hlt i (OW _ hi)) (PS.1 hnd).2 hτ (PI.1 h1).2 (h2.sublist hsub) hf2 k4 k2
  exact⟨e5,by rw[k3];exact k5,fun t=>(k6 t).trans (g2 t)⟩
theorem mV:∀(n:Nat) (rem τ:List Nat),τ.length=n→τ.Perm rem→τ.Nodup→τ.Pairwise (fun j i=>¬dep bs i j)→τ∈jV bs n rem
 |0,rem,τ,hl,_,_,_=>by
  rw[List.length_eq_zero_iff.1 hl];simp[jV]
 |n+1,rem,[],hl,_,_,_=>by simp at hl
 |n+1,rem,m::τ,hl,hp,hnd,hc=>by
  simp only[jV,List.mem_flatMap]
  refine⟨m,hp.mem_iff.1 (Oi ..),?_⟩
  have hall:rem.all (fun k=>k==m||!(bs.getD m 0).testBit k)=true:=by
   apply N5.2
   intro k hk
   have hk2:=hp.mem_iff.2 hk
   rcases O9.1 hk2 with rfl|hk3
   ·simp
   ·have:=(PI.1 hc).1 k hk3
    unfold dep at this
    rw[P5]at this
    rw[this];simp
  rw[hall]
  simp only[N6]
  apply PM.2
  refine⟨τ,mV n (rem.erase m) τ (by simpa using hl) ?_ (PS.1 hnd).2 (PI.1 hc).2,rfl⟩
  have:=hp.erase m
  simpa using this
theorem nS{n:Nat}:∀(τ done:List Nat),nK bs n done τ=true→done.Nodup→(∀i∈done,i<n)→(done.reverse++τ).Nodup∧(∀i∈τ,i<n)∧(done.reverse++τ).length=n∧
 τ.Pairwise (fun j i=>¬((i<n)∧dep bs i j))
 |[],done,h,hnd,hlt=>by
  simp only[nK,NY]at h
  exact⟨by simpa using(List.reverse_perm done).nodup_iff.2 hnd,by simp,by simpa using h,List.Pairwise.nil⟩
 |i::r,done,h,hnd,hlt=>by
  simp only[nK,NX,NY,Ot]at h
  obtain⟨⟨⟨h1,h2⟩,h3⟩,h4⟩:=h
  have h2':i∉done:=by simpa using h2
  obtain⟨g1,g2,g3,g4⟩:=nS r (i::done) h4 (PS.2 ⟨h2',hnd⟩) (fun j hj=>by
   rcases O9.1 hj with rfl|hj
   ·exact h1
   ·exact hlt j hj)
  rw[QO,NR]at g1 g3
  refine⟨g1,fun j hj=>?_,g3,PI.2 ⟨fun j hj hd=>?_,g4⟩⟩
  ·rcases O9.1 hj with rfl|hj
   ·exact h1
   ·exact g2 j hj
  ·have h5:=N5.1 h3 j (Of.2 hd.1)
   have hdj:(bs.getD i 0).testBit j=true:=hd.2
   rw[hdj]at h5
   simp only[Px,Pz,List.contains_eq_mem,NY]at h5
   rw[Ps]at g1
   exact g1.2.2 j (List.mem_reverse.2 h5) j (by simp[hj]) rfl
end
section
variable{rec:Rec}
theorem qI{o:ak}{e e1:Env}{H H1:ae}(h:stepG rec o e H=some (e1,H1)){t:Nat}(ht:o.dst≠some t):get e1 t=get e t:=by
 unfold stepG at h
 obtain⟨r,h1,h2⟩:=NP.1 h
 cases h2
 exact fQ (fun x hx hxt=>ht (hxt▸hx))
theorem eW:∀(l:List ak) {e e1:Env} {H H1:ae},cg rec l e H=some (e1,H1)→∀t,(∀o∈l,o.dst≠some t)→get e1 t=get e t
 |[],e,e1,H,H1,h,t,_=>by simp only[cg,N1,N3]at h;rw[h.1]
 |o::l,e,e1,H,H1,h,t,ht=>by
  rw[cg]at h
  obtain⟨s,h1,h2⟩:=NS.1 h
  rw[eW l h2 t (fun o' ho=>ht o' (OW _ ho)),qI (show stepG rec o e H=some (s.1,s.2)from h1) (ht o (Oi ..))]
theorem kc:∀(l:List ak) (e e0:Env) (t:Nat),get (hO l e e0) t=get e t∨((∀o∈l,o.dst≠some t)∧get (hO l e e0) t=get e0 t)
 |[],e,e0,t=>.inr ⟨by simp,rfl⟩
 |⟨some d,op,g⟩::l,e,e0,t=>by
  simp only[hO,get]
  by_cases h:t=d
  ·subst h
   left;simp
  ·have hb:(t==d)=false:=by simpa using h
   rw[hb]
   simp only[Oa]
   rcases kc l e e0 t with h1|⟨h1,h2⟩
   ·exact .inl h1
   ·refine .inr ⟨fun o ho=>?_,h2⟩
    rcases O9.1 ho with rfl|ho
    ·simp only[ne_eq,N1];exact fun h'=>h h'.symm
    ·exact h1 o ho
 |⟨none,op,g⟩::l,e,e0,t=>by
  simp only[hO]
  rcases kc l e e0 t with h1|⟨h1,h2⟩
  ·exact .inl h1
  ·refine .inr ⟨fun o ho=>?_,h2⟩
   rcases O9.1 ho with rfl|ho
   ·simp
   ·exact h1 o ho
theorem nG{l:List ak}{σ:List Nat}{e e1:Env}{H H1:ae}(h:cg rec (cq l σ) e H=some (e1,H1)):qP (hO l e1 e) e1:=by
 intro t
 rcases kc l e1 e t with h1|⟨h1,h2⟩
 ·exact h1
 ·rw[h2]
  exact(eW _ h t (fun o ho=>by
   obtain⟨i,_,hi⟩:=fi ho
   exact h1 o (Ok hi))).symm
theorem oM{A:Type}:∀(l:List (Option A)) {s:A},ma l=some s→∀x∈l,x=some s
 |[],s,h=>by simp[ma]at h
 |[a],s,h=>by intro x hx;simp only[Qk]at hx;subst hx;exact h
 |a::b::r,s,h=>by
  rw[ma]at h
  split at h
  ·rename_i hab
   intro x hx
   have ih:=oM (b::r) h
   rcases O9.1 hx with rfl|hx
   ·rw[hab];exact ih b (Oi ..)
   ·exact ih x hx
  ·cases h
end
theorem cz:∀(a b:List Nat),a.Nodup→(∀x∈a,x∈b)→a.length≤b.length
 |[],b,_,_=>PO _
 |x::a,b,hn,hs=>by
  have hx:=hs x (Oi ..)
  have h1:=cz a (b.erase x) (PS.1 hn).2 (fun y hy=>(List.mem_erase_of_ne (fun h:y=x=>(PS.1 hn).1 (by rw[←h];exact hy))).2 (hs y (OW _ hy)))
  rw[List.length_erase_of_mem hx]at h1
  have:=List.length_pos_of_mem hx
  simp only[Og]
  omega
theorem kd:∀(a b:List Nat),a.Nodup→(∀x∈a,x∈b)→a.length=b.length→a.Perm b
 |[],b,_,_,hl=>by rw[List.length_eq_zero_iff.1 hl.symm]
 |x::a,b,hn,hs,hl=>by
  have hx:=hs x (Oi ..)
  have:=List.length_pos_of_mem hx
  have h1:=kd a (b.erase x) (PS.1 hn).2 (fun y hy=>(List.mem_erase_of_ne (fun h:y=x=>(PS.1 hn).1 (by rw[←h];exact hy))).2 (hs y (OW _ hy))) (by
   rw[List.length_erase_of_mem hx];simp only[Og]at hl;omega)
  exact(h1.cons x).trans (List.perm_cons_erase hx).symm
section
variable{rec:Rec}{l:List ak}{bs:List Nat}{e:Env}{H:ae}
theorem sN{o:ak}{e:Env}{H H':ae}{v:SV}(hp:yh o.op=true)(h:ft rec o e H=some (v,H')):H'=H:=by
 have key:ai rec e H o.op=some (v,H')→H'=H:=by
  intro h
  cases c0:o.op<;>rw[c0]at hp h<;>try (exfalso;simp only[yh,Pc]at hp;done)
  all_goals simp only[ai,bu]at h
  all_goals first
   |(obtain⟨_,_,h2⟩:=NP.1 h;cases h2;rfl)
   |(replace h:=(af h).2;obtain⟨_,_,h2⟩:=NP.1 h;cases h2;rfl)
   |(replace h:=(af h).2;obtain⟨_,_,h2⟩:=NS.1 h;obtain⟨_,_,h3⟩:=NP.1 h2;cases h3;rfl)
 unfold ft at h
 split at h
 ·exact key h
 ·rename_i t w hg
  split at h
  ·rename_i b hb
   cases hbw:(b==w)with
   |true=>rw[hbw]at h;exact key h
   |false=>rw[hbw]at h;cases h;rfl
  ·cases h;rfl
  ·cases h
theorem jD(p:Nat→Bool)(n:Nat):((List.range n).filter p).Pairwise (· < ·):=List.Pairwise.filter _ List.pairwise_lt_range
def cR(W a:List Nat):Nat:=(a.filter W.contains).length
theorem kB(W a b:List Nat):cR W (a++b)=cR W a+cR W b:=by simp[cR]
section
variable{W:List Nat}(hsort:W.Pairwise (· < ·))(hchain:∀w∈W,∀w'∈W,w<w'→dep bs w w')
include hsort hchain
theorem cI{p q x y:Nat}(hx:W[p]?=some x)(hy:W[q]?=some y)(h:p<q):x<y:=by
 obtain⟨h1,rfl⟩:=NT.1 hx
 obtain⟨h2,rfl⟩:=NT.1 hy
 exact List.pairwise_iff_getElem.1 hsort p q h1 h2 h
theorem kC{a b:List Nat}(hnd:(a++b).Nodup)(hall:∀w∈W,w∈a++b)(hp:(a++b).Pairwise (fun j i=>¬dep bs i j)){w:Nat}(hw:w∈W):w∈a↔w∈W.take (cR W a):=by
 have hnd1:=(Ps.1 hnd).1
 have clo:∀w∈W,∀w'∈W,w'<w→w∈a→w'∈a:=by
  intro w hw w' hw' hlt ha
  rcases PJ.1 (hall w' hw')with h|h
  ·exact h
  ·exact absurd (hchain w' hw' w hw hlt) ((Pt.1 hp).2.2 w ha w' h)
 obtain⟨p,hpw⟩:=OD hw
 have hpl:=(NT.1 hpw).1
 constructor
 ·intro ha
  have hsub:∀x∈W.take (p+1),x∈a.filter W.contains:=by
   intro x hx
   obtain⟨q,hq⟩:=OD hx
   rw[Ob]at hq
   split at hq
   ·rename_i hlt
    have hxW:=Ok hq
    refine Pf.2 ⟨?_,by simpa using hxW⟩
    rcases Oh q p with h|h
    ·exact clo w hw x hxW (cI hsort hchain hq hpw h) ha
    ·obtain rfl:q=p:=by omega
     rw[hpw]at hq;cases hq;exact ha
   ·cases hq
  have h1:=cz (W.take (p+1)) (a.filter W.contains) ((hsort.imp (fun h=>PB h)).sublist (List.take_sublist _ _)) hsub
  rw[PW]at h1
  have:p<cR W a:=by unfold cR;omega
  refine Ok (i:=p) ?_
  rw[Ob,if_pos this,hpw]
 ·intro ht
  obtain⟨q,hq⟩:=OD ht
  rw[Ob]at hq
  split at hq
  ·rename_i hlt
   have hqp:q=p:=by
    rcases PH q p with h|h|h
    ·exact absurd (cI hsort hchain hq hpw h) (P7 _)
    ·exact h
    ·exact absurd (cI hsort hchain hpw hq h) (P7 _)
   subst hqp
   apply PC
   intro hna
   have hsub:∀x∈a.filter W.contains,x∈W.take q:=by
    intro x hx
    obtain⟨hxa,hxW⟩:=Pf.1 hx
    have hxW:x∈W:=by simpa using hxW
    obtain⟨r,hr⟩:=OD hxW
    have hrq:r<q:=by
     rcases PH r q with h|h|h
     ·exact h
     ·subst h;rw[hr]at hq;cases hq;exact absurd hxa hna
     ·exact absurd (clo x hxW w hw (cI hsort hchain hpw hr h) hxa) hna
    refine Ok (i:=r) ?_
    rw[Ob,if_pos hrq,hr]
   have h1:=cz (a.filter W.contains) (W.take q) (hnd1.filter _) hsub
   rw[PW]at h1
   unfold cR at hlt
   omega
  ·cases hq
theorem rS{a b:List Nat}{i:Nat}(hnd:(a++i::b).Nodup)(hall:∀w∈W,w∈a++i::b)(hp:(a++i::b).Pairwise (fun j i=>¬dep bs i j))(hi:i∈W):W[cR W a]?=some i:=by
 obtain⟨p,hpw⟩:=OD hi
 have hpl:=(NT.1 hpw).1
 have hia:i∉a:=fun h=>(Ps.1 hnd).2.2 i h i (Oi ..) rfl
 have h1:¬p<cR W a:=fun h=>hia ((kC hsort hchain hnd hall hp hi).2 (Ok (i:=p) (by rw[Ob,if_pos h,hpw])))
 rcases Oh (cR W a) p with h|h
 ·obtain⟨w,hw⟩:∃w,W[cR W a]?=some w:=⟨_,N4 (by omega)⟩
  have hwW:=Ok hw
  have hd:=hchain w hwW i hi (cI hsort hchain hw hpw h)
  have hwa:w∈a:=by
   rcases PJ.1 (hall w hwW)with h2|h2
   ·exact h2
   ·rcases O9.1 h2 with rfl|h2
    ·exact absurd (cI hsort hchain hw hpw h) (P7 _)
    ·have:=(Pt.1 hp).2.1
     exact absurd hd ((PI.1 this).1 w h2)
  have h3:=(kC hsort hchain hnd hall hp hwW).1 hwa
  obtain⟨q,hq⟩:=OD h3
  rw[Ob]at hq
  split at hq
  ·rename_i hlt
   exact absurd (cI hsort hchain hq hw hlt) (P7 _)
  ·cases hq
 ·rw[show cR W a=p by omega];exact hpw
end
def iI(rec:Rec)(l:List ak)(W:List Nat)(S:Env)(H:ae):Nat→ae
 |0=>H
 |j+1=>match(W[j]?).bind (l[·]?)with
  |some o=>match ft rec o S (iI rec l W S H j)with
   |some r=>r.2
   |none=>iI rec l W S H j
  |none=>iI rec l W S H j
theorem rJ{os:List (List Nat)}{W:List Nat}(hW:W=yX l)
 (hdst:∀(i k:Nat) (a b:ak) (d:Nat),l[k]?=some a→l[i]?=some b→k≤i→b.dst=some d→d∉br a∧(k≠i→a.dst≠some d))
 (hind:∀i j a b,i<j→l[i]?=some a→l[j]?=some b→dep bs i j∨ed a b=true)
 (hchain:∀w∈W,∀w'∈W,w<w'→dep bs w w') (hne:os≠[])
 (hst:∀r o j,l[r]?=some o→yh o.op=true→j≤W.length→(∀w∈W.take j,¬dep bs r w)→(∀w∈W.drop j,¬dep bs w r)→∃σ∈os,pL W σ r=j)
 (hlin:∀σ∈os,σ.Nodup∧(∀i∈σ,i<l.length)∧σ.length=l.length∧σ.Pairwise (fun j i=>¬dep bs i j))
 {S:Env} {H2:ae} (hrun:∀σ∈os,∃e2,cg rec (cq l σ) e H=some (e2,H2)∧qP S e2) :
 ∀τ:List Nat,τ.Nodup→(∀i∈τ,i<l.length)→τ.length=l.length→τ.Pairwise (fun j i=>¬dep bs i j)→∃e1,cg rec (cq l τ) e H=some (e1,H2)∧qP S e1:=by
 have hsort:W.Pairwise (· < ·):=by rw[hW];exact jD _ _
 have hWl:∀w∈W,w<l.length:=fun w hw=>by rw[hW]at hw;exact Of.1 (Pf.1 hw).1
 have hfull:∀τ:List Nat,τ.Nodup→(∀i∈τ,i<l.length)→τ.length=l.length→∀i,i<l.length→i∈τ:=by
  intro τ h1 h2 h3 i hi
  exact(kd τ (List.range l.length) h1 (fun j hj=>Of.2 (h2 j hj)) (by simp[h3])).mem_iff.2 (Of.2 hi)
 have hkind:∀(i:Nat) (o:ak),l[i]?=some o→fh o.op=true∨yh o.op=true∨i∈W:=by
  intro i o ho
  cases h1:fh o.op with
  |true=>exact .inl rfl
  |false=>
   cases h2:yh o.op with
   |true=>exact .inr (.inl rfl)
   |false=>
    refine .inr (.inr ?_)
    rw[hW]
    refine Pf.2 ⟨Of.2 (NT.1 ho).1,?_⟩
    rw[ho];simp[h1,h2]
 have hWno:∀(i:Nat) (o:ak),l[i]?=some o→i∈W→fh o.op=false∧yh o.op=false:=by
  intro i o ho hi
  rw[hW]at hi
  have:=(Pf.1 hi).2
  rw[ho]at this
  simpa using this
 have hdep:∀(i k:Nat) (a b:ak) (d:Nat),l[k]?=some a→l[i]?=some b→a.dst=some d→d∈br b→dep bs k i:=by
  intro i k a b d ha hb hd ht
  rcases Oh k i with h|h
  ·rcases hind k i a b h ha hb with h2|h2
   ·exact h2
   ·exact absurd ht ((ke h2).1 d hd).1
  ·exact absurd ht (hdst k i b a d hb ha h hd).1
 have hS:∀t,(∀(i:Nat) (o:ak),l[i]?=some o→o.dst≠some t)→get S t=get e t:=by
  intro t ht
  obtain⟨σ,hσ⟩:=P9 os hne
  obtain⟨e2,h1,h2⟩:=hrun σ hσ
  rw[h2 t]
  exact eW _ h1 t (fun o ho=>by obtain⟨i,_,hi⟩:=fi ho;exact ht i o hi)
 have hin:∀(a b:List Nat) (i:Nat) (o:ak) (ea:Env) (Ha:ae),(∀k,k<l.length→k∈a++i::b)→(a++i::b).Pairwise (fun j i=>¬dep bs i j)→l[i]?=some o→cg rec (cq l a) e H=some (ea,Ha)→
  (∀k∈a,∀(ok:ak) (d:Nat),l[k]?=some ok→ok.dst=some d→get ea d=get S d)→∀hh,ft rec o ea hh=ft rec o S hh:=by
  intro a b i o ea Ha hall hp ho hra hva hh
  refine ff (fun t ht=>?_)
  by_cases hx:∃(k:Nat) (ok:ak),l[k]?=some ok∧ok.dst=some t
  ·obtain⟨k,ok,hk,hkd⟩:=hx
   have hd:=hdep i k ok o t hk ho hkd ht
   rcases PJ.1 (hall k (NT.1 hk).1)with h|h
   ·exact hva k h ok t hk hkd
   ·rcases O9.1 h with rfl|h
    ·exact absurd ht (hdst k k o ok t ho hk (NV _) hkd).1
    ·have:=(Pt.1 hp).2.1
     exact absurd hd ((PI.1 this).1 k h)
  ·have h1:∀(j:Nat) (oj:ak),l[j]?=some oj→oj.dst≠some t:=fun j oj hj hjd=>hx ⟨j,oj,hj,hjd⟩
   rw[hS t h1]
   exact eW _ hra t (fun o' ho'=>by obtain⟨j,_,hj⟩:=fi ho';exact h1 j o' hj)
 have hval:∀σ∈os,∀a b ea Ha,σ=a++b→cg rec (cq l a) e H=some (ea,Ha)→∀k∈a,∀(ok:ak) (d:Nat),l[k]?=some ok→ok.dst=some d→get ea d=get S d:=by
  intro σ hσ a b ea Ha hab hra k hk ok d hok hd
  obtain⟨e2,h1,h2⟩:=hrun σ hσ
  rw[hab,cd,cC,hra]at h1
  simp only[OV]at h1
  rw[h2 d,eW _ h1 d (fun o ho hod=>?_)]
  obtain⟨j,hj,hoj⟩:=fi ho
  have hnd:=(hlin σ hσ).1
  rw[hab]at hnd
  have hne:k≠j:=fun h=>(Ps.1 hnd).2.2 k hk j hj h
  rcases Oh k j with h|h
  ·exact(hdst j k ok o d hok hoj (Nat.le_of_lt h) hod).2 hne hd
  ·exact(hdst k j o ok d hoj hok h hd).2 (Ne.symm hne) hod
 have hmemW:∀σ∈os,∀w∈W,w∈σ:=fun σ hσ w hw=>hfull σ (hlin σ hσ).1 (hlin σ hσ).2.1 (hlin σ hσ).2.2.1 w (hWl w hw)
 have hheap:∀σ∈os,∀(n:Nat) (a b:List Nat) ea Ha,a.length=n→σ=a++b→cg rec (cq l a) e H=some (ea,Ha)→Ha=iI rec l W S H (cR W a):=by
  intro σ hσ n
  induction n with
  |zero=>
   intro a b ea Ha hn hab hra
   cases Pe hn
   simp only[cq,cg,N1,N3]at hra
   rw[←hra.2];rfl
  |succ n ih=>
   intro a' b ea Ha hn hab hra
   obtain⟨a,i,rfl⟩:∃a i,a'=a++[i]:=by
    rcases List.eq_nil_or_concat a' with rfl|⟨a,i,h⟩
    ·cases hn
    ·exact⟨a,i,by simpa using h⟩
   have hn':a.length=n:=by simpa using hn
   have hil:i<l.length:=(hlin σ hσ).2.1 i (by rw[hab];simp)
   obtain⟨o,ho⟩:∃o,l[i]?=some o:=⟨_,N4 hil⟩
   rw[cd,cC]at hra
   obtain⟨⟨e3,H3⟩,h3,h4⟩:=NS.1 hra
   rw[eh ho,cg]at h4
   obtain⟨⟨e5,H5⟩,h5,h6⟩:=NS.1 h4
   simp only[cq,cg,N1,N3]at h6
   obtain⟨rfl,rfl⟩:=h6
   have hab2:σ=a++i::b:=by rw[hab];simp
   have hH3:=ih a (i::b) e3 H3 hn' hab2 h3
   unfold stepG at h5
   obtain⟨⟨v,H6⟩,h7,h8⟩:=NP.1 h5
   simp only[N3]at h8
   obtain⟨_,rfl⟩:=h8
   rw[kB]
   rcases hkind i o ho with hk|hk|hk
   ·have hnW:i∉W:=fun h=>by rw[(hWno i o ho h).1]at hk;cases hk
    have:cR W [i]=0:=by simp[cR,hnW]
    rw[this,(iq hk h7).1]
    exact hH3
   ·have hnW:i∉W:=fun h=>by rw[(hWno i o ho h).2]at hk;cases hk
    have:cR W [i]=0:=by simp[cR,hnW]
    rw[this,sN hk h7]
    exact hH3
   ·have h1:cR W [i]=1:=by simp[cR,hk]
    have hnx:=rS hsort hchain (a:=a) (b:=b) (i:=i) (by rw[←hab2];exact(hlin σ hσ).1) (fun w hw=>by rw[←hab2];exact hmemW σ hσ w hw) (by rw[←hab2];exact(hlin σ hσ).2.2.2) hk
    have hag:=hin a b i o e3 H3 (fun k hk=>by rw[←hab2];exact hfull σ (hlin σ hσ).1 (hlin σ hσ).2.1 (hlin σ hσ).2.2.1 k hk) (by rw[←hab2];exact(hlin σ hσ).2.2.2) ho h3 (hval σ hσ a (i::b) e3 H3 hab2 h3) H3
    rw[hag,hH3]at h7
    rw[h1]
    show H6=iI rec l W S H (cR W a+1)
    unfold iI
    rw[hnx]
    simp only[OV,ho,h7]
 have hH2:H2=iI rec l W S H W.length:=by
  obtain⟨σ,hσ⟩:=P9 os hne
  obtain⟨e2,h1,_⟩:=hrun σ hσ
  have:=hheap σ hσ σ.length σ [] e2 H2 rfl (by simp) h1
  rw[this]
  congr 1
  have h3:=cz W (σ.filter W.contains) (hsort.imp (fun h=>PB h)) (fun w hw=>Pf.2 ⟨hmemW σ hσ w hw,by simpa using hw⟩)
  have h4:=cz (σ.filter W.contains) W ((hlin σ hσ).1.filter _) (fun w hw=>by simpa using(Pf.1 hw).2)
  unfold cR
  omega
 intro τ t1 t2 t3 t4
 have tall:=hfull τ t1 t2 t3
 have main:∀(n:Nat) (a b:List Nat),a.length=n→τ=a++b→∃ea,cg rec (cq l a) e H=some (ea,iI rec l W S H (cR W a))∧∀k∈a,∀(ok:ak) (d:Nat),l[k]?=some ok→ok.dst=some d→get ea d=get S d:=by
  intro n
  induction n with
  |zero=>
   intro a b hn hab
   cases Pe hn
   exact⟨e,rfl,fun k hk=>by cases hk⟩
  |succ n ih=>
   intro a' b hn hab
   obtain⟨a,i,rfl⟩:∃a i,a'=a++[i]:=by
    rcases List.eq_nil_or_concat a' with rfl|⟨a,i,h⟩
    ·cases hn
    ·exact⟨a,i,by simpa using h⟩
   have hn':a.length=n:=by simpa using hn
   have hab2:τ=a++i::b:=by rw[hab];simp
   have hil:i<l.length:=t2 i (by rw[hab];simp)
   have hp2:(a++i::b).Pairwise (fun j i=>¬dep bs i j):=by rw[←hab2];exact t4
   have hn2:(a++i::b).Nodup:=by rw[←hab2];exact t1
   obtain⟨o,ho⟩:∃o,l[i]?=some o:=⟨_,N4 hil⟩
   obtain⟨ea,h1,h2⟩:=ih a (i::b) hn' hab2
   have hag:=hin a b i o ea _ (fun k hk=>by rw[←hab2];exact tall k hk) (by rw[←hab2];exact t4) ho h1 h2
   have hobs:∀σ∈os,∃a1 b1 v,σ=a1++i::b1∧ft rec o S (iI rec l W S H (cR W a1))=some (v,iI rec l W S H (cR W (a1++[i])))∧∀d,o.dst=some d→v=get S d:=by
    intro σ hσ
    obtain⟨q1,q2,q3,q4⟩:=hlin σ hσ
    obtain⟨a1,b1,hs⟩:=List.append_of_mem (hfull σ q1 q2 q3 i hil)
    obtain⟨e2,r1,r2⟩:=hrun σ hσ
    rw[hs,cd,cC]at r1
    obtain⟨⟨e3,H3⟩,r3,r4⟩:=NS.1 r1
    rw[eh ho,cg]at r4
    obtain⟨⟨e5,H5⟩,r5,r6⟩:=NS.1 r4
    have hH3:=hheap σ hσ _ a1 (i::b1) e3 H3 rfl hs r3
    have hr:cg rec (cq l (a1++[i])) e H=some (e5,H5):=by
     rw[cd,cC,r3]
     show cg rec (cq l [i]) e3 H3=_
     rw[eh ho,cg,r5];rfl
    have hH5:=hheap σ hσ _ (a1++[i]) b1 e5 H5 rfl (by rw[hs];simp) hr
    have hv5:=hval σ hσ (a1++[i]) b1 e5 H5 (by rw[hs];simp) hr i (by simp)
    have hag1:=hin a1 b1 i o e3 H3 (fun k hk=>by rw[←hs];exact hfull σ q1 q2 q3 k hk) (by rw[←hs];exact q4) ho r3 (hval σ hσ a1 (i::b1) e3 H3 hs r3) H3
    unfold stepG at r5
    obtain⟨⟨v,H6⟩,r7,r8⟩:=NP.1 r5
    simp only[N3]at r8
    obtain⟨r9,rfl⟩:=r8
    rw[hag1,hH3]at r7
    refine⟨a1,b1,v,hs,by rw[←hH5];exact r7,fun d hd=>?_⟩
    rw[←hv5 o d ho hd,←r9,hd]
    simp[bB,get]
   have hstep:∃v,ft rec o S (iI rec l W S H (cR W a))=some (v,iI rec l W S H (cR W (a++[i])))∧∀d,o.dst=some d→v=get S d:=by
    rcases hkind i o ho with hk|hk|hk
    ·obtain⟨σ,hσ⟩:=P9 os hne
     obtain⟨a1,b1,v,hs,r1,r2⟩:=hobs σ hσ
     have hnW:i∉W:=fun h=>by rw[(hWno i o ho h).1]at hk;cases hk
     have:cR W [i]=0:=by simp[cR,hnW]
     refine⟨v,?_,r2⟩
     rw[kB,this]
     exact(iq hk r1).2 _
    ·have hnW:i∉W:=fun h=>by rw[(hWno i o ho h).2]at hk;cases hk
     have hc0:cR W [i]=0:=by simp[cR,hnW]
     have hwall:∀w∈W,w∈a++i::b:=fun w hw=>by rw[←hab2];exact tall w (hWl w hw)
     have hle:cR W a≤W.length:=cz (a.filter W.contains) W ((Ps.1 hn2).1.filter _) (fun w hw=>by simpa using(Pf.1 hw).2)
     obtain⟨σ,hσ,hstg⟩:=hst i o (cR W a) ho hk hle
      (fun w hw hd=>by
       have hwW:=List.mem_of_mem_take hw
       have hwa:=(kC hsort hchain hn2 hwall hp2 hwW).2 hw
       exact(Pt.1 hp2).2.2 w hwa i (Oi ..) hd)
      (fun w hw hd=>by
       have hwW:=List.mem_of_mem_drop hw
       have hwna:w∉a:=fun hwa=>by
        have h3:=(kC hsort hchain hn2 hwall hp2 hwW).1 hwa
        obtain⟨p,hp⟩:=OD h3
        obtain⟨q,hq⟩:=OD hw
        rw[Ob]at hp
        split at hp
        ·rw[Ou]at hq
         exact absurd (cI hsort hchain hp hq (by omega)) (P7 _)
        ·cases hp
       rcases PJ.1 (hwall w hwW)with h3|h3
       ·exact hwna h3
       ·rcases O9.1 h3 with rfl|h3
        ·exact hnW hwW
        ·have:=(Pt.1 hp2).2.1
         exact(PI.1 this).1 w h3 hd)
     obtain⟨a1,b1,v,hs,r1,r2⟩:=hobs σ hσ
     have hst1:pL W σ i=cR W a1:=by
      have hnd:=(hlin σ hσ).1
      rw[hs]at hnd⊢
      unfold pL cR
      have:(a1++i::b1).takeWhile (fun x=>x != i)=a1:=by
       have h3:∀x∈a1,(x != i)=true:=fun x hx=>by
        have:=(Ps.1 hnd).2.2 x hx i (Oi ..)
        simpa using this
       rw[List.takeWhile_append_of_pos h3,List.takeWhile_cons_of_neg (by simp)]
       simp
      rw[this]
     rw[hst1]at hstg
     refine⟨v,?_,r2⟩
     rw[kB,hc0]at r1⊢
     rw[hstg]at r1
     exact r1
    ·obtain⟨σ,hσ⟩:=P9 os hne
     obtain⟨a1,b1,v,hs,r1,r2⟩:=hobs σ hσ
     obtain⟨q1,q2,q3,q4⟩:=hlin σ hσ
     have n1:=rS hsort hchain (a:=a) (b:=b) (i:=i) hn2 (fun w hw=>by rw[←hab2];exact tall w (hWl w hw)) hp2 hk
     have n2:=rS hsort hchain (a:=a1) (b:=b1) (i:=i) (hs▸q1) (fun w hw=>by rw[←hs];exact hmemW σ hσ w hw) (hs▸q4) hk
     have:cR W a=cR W a1:=by
      rcases PH (cR W a) (cR W a1)with h|h|h
      ·exact absurd (cI hsort hchain n1 n2 h) (P7 _)
      ·exact h
      ·exact absurd (cI hsort hchain n2 n1 h) (P7 _)
     refine⟨v,?_,r2⟩
     rw[kB]at r1⊢
     rw[this];exact r1
   obtain⟨v,s1,s2⟩:=hstep
   refine⟨bB ea o.dst v,?_,?_⟩
   ·rw[cd,cC,h1]
    show cg rec (cq l [i]) ea _=_
    rw[eh ho,cg]
    unfold stepG
    rw[hag,s1]
    rfl
   ·intro k hk ok d hok hd
    rcases PJ.1 hk with hk|hk
    ·have hki:k≠i:=fun h=>(Ps.1 hn2).2.2 k hk i (Oi ..) h
     have hod:o.dst≠some d:=by
      rcases Oh k i with h|h
      ·exact fun hod=>(hdst i k ok o d hok ho (Nat.le_of_lt h) hod).2 hki hd
      ·exact fun hod=>(hdst k i o ok d ho hok h hd).2 (Ne.symm hki) hod
     rw[fQ (fun x hx hxd=>hod (by rw[hx,hxd]))]
     exact h2 k hk ok d hok hd
    ·simp only[Qk]at hk
     subst hk
     rw[ho]at hok;cases hok
     rw[hd]
     simp only[bB,get,O8,N6]
     exact s2 d hd
 obtain⟨e1,h1,h2⟩:=main τ.length τ [] rfl (by simp)
 refine⟨e1,?_,fun t=>?_⟩
 ·rw[h1,hH2]
  congr 3
  have h3:=cz W (τ.filter W.contains) (hsort.imp (fun h=>PB h)) (fun w hw=>Pf.2 ⟨tall w (hWl w hw),by simpa using hw⟩)
  have h4:=cz (τ.filter W.contains) W (t1.filter _) (fun w hw=>by simpa using(Pf.1 hw).2)
  unfold cR
  omega
 ·by_cases hx:∃(k:Nat) (ok:ak),l[k]?=some ok∧ok.dst=some t
  ·obtain⟨k,ok,hk,hkd⟩:=hx
   exact(h2 k (tall k (NT.1 hk).1) ok t hk hkd).symm
  ·have h3:∀(j:Nat) (oj:ak),l[j]?=some oj→oj.dst≠some t:=fun j oj hj hjd=>hx ⟨j,oj,hj,hjd⟩
   rw[hS t h3]
   exact(eW _ h1 t (fun o' ho'=>by obtain⟨j,_,hj⟩:=fi ho';exact h3 j o' hj)).symm
end
section
variable{C:Ctx}{rec:Rec}{f:FuncId}{nt:Nat}{ops:Array Oper}{B:iL}
theorem Rel.eqv{e e':Env}{H:ae}{a:Act}{w:World}(h:Rel C nt B e H a w)(he:qP e' e):Rel C nt B e' H a w:=by
 obtain⟨ρ,F,h1,h2,h3,h4,h5⟩:=h
 exact⟨ρ,F,h1,fun t=>by rw[he t];exact h2 t,h3,h4,h5⟩
theorem wF(hrec:eP C rec){i:Nat}{op:Oper}{o:ak}{e e1:Env}{H H1:ae}{a:Act}{w:World}{ro:Option Nat}{n:Nat}{Q:Exit→Act→World→Prop}{K:Act→World→Prop}
 (hi:ops[i]?=some op) (hco:fX C.P C.cU f nt ops op=some o) (hs:stepG rec o e H=some (e1,H1)) (hrel:Rel C nt B e H a w) (hK:∀a' w',Rel C nt B e1 H1 a' w'→K a' w') :
 wpOpIn (WF ro) n C.P ops Q i K a w:=by
 unfold wpOpIn
 simp only[hi]
 unfold fX at hco
 replace hco:=dV hco
 obtain⟨hdst,hco⟩:=hco
 have hd:∀d,op.dst=some d→d<nt:=fun d hd=>by
  rw[hd]at hdst;simpa using hdst
 obtain⟨ρ,F,hr,he,hput⟩:=hrel.step (P:=fun _ _=>True)
 unfold stepG ft at hs
 have hgo:∀op1,op1=pY (lk C.cU f op.dst) ((lQ C.P op.op).getD .bad)→(ai rec e H op1).map (fun r=>(bB e op.dst r.1,r.2))=some (e1,H1)→op.wpIn (WF ro) n C.P a w K Q:=by
  intro op1 c0 h
  obtain⟨⟨s,H'⟩,h1,h2⟩:=NP.1 h
  simp only[N3]at h2
  obtain⟨rfl,rfl⟩:=h2
  exact gF hrec c0 h1 hr he (fun val w' hdn=>hK _ _ (hput op.dst s H' val w' hd hdn))
 split at hco
 ·rename_i hg
  cases hco
  have hw:Region.wanted op (yielded ops a.tmps)=true:=by simp[Region.wanted,hg]
  rw[hw,if_pos rfl]
  exact hgo _ rfl hs
 ·rename_i j' want hg
  split at hco
  ·rename_i t ht
   cases hco
   simp only at hs
   split at hs
   ·rename_i b hb
    have htv:a.tmps.getD t undef=.bool b:=by
     have:=he t
     rw[hb]at this
     exact dC this
    have hy:yielded ops a.tmps j'=some b:=by
     simp only[yielded,ht,OV,jA htv]
    cases hbw:(b==want)with
    |true=>
     rw[hbw]at hs
     have hw:Region.wanted op (yielded ops a.tmps)=true:=by
      simp only[Region.wanted,hg,hy];simpa using hbw
     rw[hw,if_pos rfl]
     exact hgo _ rfl hs
    |false=>
     rw[hbw]at hs
     have hw:¬Region.wanted op (yielded ops a.tmps)=true:=by
      simp only[Region.wanted,hg,hy];simpa using hbw
     rw[if_neg hw]
     simp only[Oa,Oo,N1,N3]at hs
     obtain⟨rfl,rfl⟩:=hs
     exact⟨fun _ _=>trivial,hK _ _ (hput op.dst .gJ H undef w hd (cN.same hr .gJ))⟩
   ·rename_i hb
    have htv:a.tmps.getD t undef=undef:=by
     have:=he t
     rw[hb]at this
     exact sd this
    have hy:yielded ops a.tmps j'=none:=ml ht htv
    have hw:¬Region.wanted op (yielded ops a.tmps)=true:=by
     simp only[Region.wanted,hg,hy];simp
    rw[if_neg hw]
    simp only[Oo,N1,N3]at hs
    obtain⟨rfl,rfl⟩:=hs
    exact⟨fun _ _=>trivial,hK _ _ (hput op.dst .gJ H undef w hd (cN.same hr .gJ))⟩
   ·cases hs
  ·cases hco
theorem yR(hmix:C.P.follows .mixedOrders=true)(hrec:eP C rec){id:Nat}{c:bO}(hc:xS C.P C.cU f nt ops=some c):fm C rec nt (.region id ops true) c:=by
 unfold xS at hc
 split at hc
 ·cases hc
 rename_i l hl
 obtain⟨bs,hbs⟩:∃bs,aW ops.toList=bs:=⟨_,rfl⟩
 rw[hbs]at hc
 obtain⟨os,rfl,hos⟩:∃os,c=.perm l os∧(qR bs ops.toList l os=true∨pv bs ops.toList l os=true):=by
  cases hf:qR bs ops.toList l (py bs l)with
  |true=>rw[hf]at hc;cases hc;exact⟨_,rfl,.inl hf⟩
  |false=>
   rw[hf]at hc
   simp only[Oa]at hc
   replace hc:=af hc
   obtain⟨hok,hc⟩:=hc
   cases hc
   exact⟨_,rfl,.inr hok⟩
 intro ro n Bs Q R k r e H a w hro hrun hk hrel
 simp only[run]at hrun
 obtain⟨g1,g2⟩:=cY hl
 have hlen:l.length=ops.size:=by rw[g1];simp
 have vP:(ops.toList.zipIdx.all fun p=>p.1.after.toList.all fun e=>!Region.binds .any e||decide (e.on<p.2))=true∧
  ((List.range l.length).all fun j=>(List.range j).all fun i=>match l[i]?,l[j]? with
    |some a,some b=>(bs.getD j 0).testBit i||ed a b
    |_,_=>false)=true∧(os.all fun o=>nK bs l.length [] o)=true:=by
  rcases hos with hok|hok
  ·unfold qR at hok
   simp only[NX]at hok
   exact⟨hok.1.1.1.1.1.1,hok.1.1.1.1.1.2,hok.1.1.1.1.2⟩
  ·unfold pv at hok
   simp only[NX]at hok
   exact⟨hok.1.1.1,hok.1.1.2,hok.1.2⟩
 obtain⟨c1,c2,c3⟩:=vP
 have hedge:∀(j:Nat) o,ops.toList[j]?=some o→∀e∈o.after,Region.binds .any e=true→e.on<j:=by
  intro j o ho e he hb
  have h1:=N5.1 c1 (o,j) (List.mem_zipIdx_iff_getElem?.2 (by simpa using ho))
  have h2:=N5.1 h1 e (by simpa using he)
  rw[hb]at h2
  simpa using h2
 have hbk:∀i j,dep bs i j→i<j:=by
  intro i j h
  rw[←hbs]at h
  exact sq (fun j o ho e he hb=>hedge j o ho e he hb) j i h
 have hind:∀i j x y,l[i]?=some x→l[j]?=some y→i≠j→dep bs i j∨dep bs j i∨ed x y=true∨ed y x=true:=by
  have key:∀i j x y,i<j→l[i]?=some x→l[j]?=some y→dep bs i j∨ed x y=true:=by
   intro i j x y hij hx hy
   have hjl:=(NT.1 hy).1
   have h1:=N5.1 c2 j (Of.2 hjl)
   have h2:=N5.1 h1 i (Of.2 hij)
   rw[hx,hy]at h2
   simp only[O3]at h2
   exact h2
  intro i j x y hx hy hne
  rcases Rd hne with h|h
  ·rcases key i j x y h hx hy with h|h
   ·exact .inl h
   ·exact .inr (.inr (.inl h))
  ·rcases key j i y x h hy hx with h|h
   ·exact .inr (.inl h)
   ·exact .inr (.inr (.inr h))
 cases hsm:ma (os.map (jZ rec l e H))with
 |none=>rw[hsm]at hrun;cases hrun
 |some s=>
 rw[hsm]at hrun
 have hall:=oM _ hsm
 have hrunσ:∀σ∈os,∃e2 H2,cg rec (cq l σ) e H=some (e2,H2)∧s=(hO l e2 e,H2):=by
  intro σ hσ
  have h1:=hall _ (PM.2 ⟨σ,hσ,rfl⟩)
  unfold jZ at h1
  rw[ks]at h1
  obtain⟨s2,h2,h3⟩:=NS.1 h1
  simp only[N1]at h3
  exact⟨s2.1,s2.2,h2,h3.symm⟩
 have hlin:∀σ∈os,σ.Nodup∧(∀i∈σ,i<l.length)∧σ.length=l.length∧σ.Pairwise (fun j i=>¬dep bs i j):=by
  intro σ hσ
  obtain⟨q1,q2,q3,q4⟩:=nS σ [] (N5.1 c3 σ hσ) QP (by simp)
  refine⟨by simpa using q1,q2,by simpa using q3,?_⟩
  exact q4.imp_of_mem (fun{j i} hj hi h hd=>h ⟨q2 i hi,hd⟩)
 have hperm:∀τ:List Nat,τ.Nodup→(∀i∈τ,i<l.length)→τ.length=l.length→τ.Perm (List.range l.length):=by
  intro τ h1 h2 h3
  exact kd τ _ h1 (fun i hi=>Of.2 (h2 i hi)) (by simp[h3])
 have hfull:∀τ:List Nat,τ.Nodup→(∀i∈τ,i<l.length)→τ.length=l.length→τ.Pairwise (fun j i=>¬dep bs i j)→∃e1,cg rec (cq l τ) e H=some (e1,s.2)∧qP s.1 e1:=by
  rcases hos with hok|hok
  ·unfold qR at hok
   simp only[NX]at hok
   obtain⟨⟨⟨⟨_,c4⟩,c5⟩,c6⟩,c7⟩:=hok
   refine rJ (S:=s.1) (H2:=s.2) rfl ?_ ?_ ?_ ?_ ?_ hlin ?_
   ·intro i k x y d hx hy hki hd
    have hil:=(NT.1 hy).1
    have h1:=N5.1 c4 i (Of.2 hil)
    have h2:=N5.1 h1 k (Of.2 (by omega))
    rw[hx,hy]at h2
    simp only[hd,NX,O3,Ot,O1,Pr]at h2
    exact⟨by simpa using h2.1,fun hne hxd=>by
     rcases h2.2 with h3|h3
     ·exact hne h3
     ·exact h3 hxd⟩
   ·intro i j x y hij hx hy
    have hjl:=(NT.1 hy).1
    have h1:=N5.1 c2 j (Of.2 hjl)
    have h2:=N5.1 h1 i (Of.2 hij)
    rw[hx,hy]at h2
    simp only[O3]at h2
    exact h2
   ·intro w hw w' hw' hlt
    have h1:=N5.1 (N5.1 c5 w hw) w' hw'
    rw[NN hlt]at h1
    simpa[dep]using h1
   ·intro h
    rw[h]at c6
    simp at c6
   ·intro r o j hro' hrd hj h1 h2
    have hrl:=(NT.1 hro').1
    have h3:=N5.1 c7 r (Of.2 hrl)
    rw[hro']at h3
    simp only[hrd,Px,Pz]at h3
    have h4:=N5.1 h3 j (Of.2 (by omega))
    have h5:nX bs (yX l) r j=true:=by
     unfold nX
     rw[NX]
     refine⟨N5.2 fun w hw=>?_,N5.2 fun w hw=>?_⟩
     ·have:=h1 w hw;unfold dep at this;simpa using this
     ·have:=h2 w hw;unfold dep at this;simpa using this
    rw[h5]at h4
    simp only[Px,Pz]at h4
    obtain⟨σ,hσ,h6⟩:=QF.1 h4
    exact⟨σ,hσ,by simpa using h6⟩
   ·intro σ hσ
    obtain⟨e2,H2,r1,r2⟩:=hrunσ σ hσ
    exact⟨e2,by rw[r2];exact r1,by rw[r2];exact nG r1⟩
  unfold pv at hok
  simp only[NX]at hok
  obtain⟨_,c4⟩:=hok
  intro τ h1 h2 h3 h4
  have hp:=hperm τ h1 h2 h3
  have hmem:τ.filter (gi l)∈jV bs ((List.range l.length).filter (gi l)).length ((List.range l.length).filter (gi l)):=
   mV _ _ _ (hp.filter _).length_eq (hp.filter _) (h1.filter _) (h4.filter _)
  have h5:=N5.1 c4 _ hmem
  obtain⟨σ,hσ,h6⟩:=QF.1 h5
  obtain⟨q1,q2,q3,q4⟩:=hlin σ hσ
  obtain⟨e2,H2,r1,r2⟩:=hrunσ σ hσ
  obtain⟨e1,r3,r4⟩:=reduce hind τ σ h2 h1 (hp.trans (hperm σ q1 q2 q3).symm) h4 q4 (by simpa using(O1.1 h6).symm) (fun _=>rfl) r1
  refine⟨e1,by rw[r2];exact r3,fun t=>?_⟩
  rw[r2,r4 t]
  exact nG r1 t
 refine wpIn_region_any hmix ?_
 have hrel0:Rel C nt Bs e H a {w with drawn:=w.drawn+1}:=by
  obtain⟨ρ,F,q1,q2,q3,q4,q5⟩:=hrel
  obtain⟨z1,z2⟩:=q1.same (w':={w with drawn:=w.drawn+1}) (NV _) (fun _ _=>rfl)
  exact⟨ρ,F,z1,z2.er q1 q2,q3.trans z2,q4,q5.ext z2.toExt0⟩
 have main:∀(fuel:Nat) (listed:Array Bool) (a:Act) (w:World),listed.size=ops.size→Au listed≤fuel→
  (∃τ:List Nat,τ.Nodup∧(∀j,listed.getD j false=true↔j∈τ)∧(∀j∈τ,j<l.length)∧τ.Pairwise (fun j i=>¬dep bs i j)∧(∀j∈τ,∀o,ops.toList[j]?=some o→∀e∈o.after,Region.binds .any e=true→e.on∈τ)∧
   ∃e1 H1,cg rec (cq l τ) e H=some (e1,H1)∧Rel C nt Bs e1 H1 a w)→wpAnyIn (WF ro) n C.P .any ops Q fuel listed a w:=by
  have hlast:∀(listed:Array Bool) (a:Act) (w:World),listed.size=ops.size→
   (∃τ:List Nat,τ.Nodup∧(∀j,listed.getD j false=true↔j∈τ)∧(∀j∈τ,j<l.length)∧τ.Pairwise (fun j i=>¬dep bs i j)∧(∀j∈τ,∀o,ops.toList[j]?=some o→∀e∈o.after,Region.binds .any e=true→e.on∈τ)∧
    ∃e1 H1,cg rec (cq l τ) e H=some (e1,H1)∧Rel C nt Bs e1 H1 a w)→Region.ready .any ops listed=[]→Q .normal a w:=by
   intro listed a w hsz ⟨τ,t1,t2,t3,t4,t5,e1,H1,t6,t7⟩ hnil
   have hall2:∀j,j<l.length→j∈τ:=by
    intro j
    induction j using Nat.strongRecOn with
    |_ j ih=>
     intro hj
     apply PC
     intro hn
     have hjs:j<listed.size:=by omega
     have hnl:listed.getD j false=false:=by
      cases hx:listed.getD j false with
      |false=>rfl
      |true=>exact absurd ((t2 j).1 hx) hn
     have hmem:j∈Region.ready .any ops listed:=by
      rw[mem_ready]
      have hoj:ops[j]?=some (ops[j]'(by omega)):=Od (by omega)
      refine⟨by simpa[hjs]using hnl,_,hoj,fun e' he' hb=>?_⟩
      have h1:=hedge j _ (by simpa using hoj) e' he' hb
      exact(t2 e'.on).2 (ih e'.on h1 (by omega))
     rw[hnil]at hmem
     cases hmem
   have hlenτ:τ.length=l.length:=by
    have h1:=cz (List.range l.length) τ QX (fun j hj=>hall2 j (Of.1 hj))
    have h2:=cz τ (List.range l.length) t1 (fun j hj=>Of.2 (t3 j hj))
    rw[PA]at h1 h2
    omega
   obtain⟨e3,r1,r2⟩:=hfull τ t1 t3 hlenτ t4
   rw[t6]at r1
   cases r1
   exact hk .normal s.1 s.2 a w hrun (t7.eqv r2)
  intro fuel
  induction fuel with
  |zero=>
   intro listed a w hsz hu hj
   have hnil:Region.ready .any ops listed=[]:=by
    apply List.eq_nil_iff_forall_not_mem.2
    intro j hjr
    have h1:=(mem_ready.1 hjr).1
    have hks:j<listed.size:=by
     rcases Oh j listed.size with h|h
     ·exact h
     ·simp[P3 h]at h1
    have:false∈listed.toList:=by
     simp[hks]at h1
     rw[←h1];simp
    have:=List.count_pos_iff.2 this
    unfold Au at hu
    omega
   exact⟨hnil,hlast listed a w hsz hj hnil⟩
  |succ fuel ih=>
   intro listed a w hsz hu hj
   refine⟨hlast listed a w hsz hj,fun i hi=>?_⟩
   obtain⟨h1,o,ho,hafter⟩:=mem_ready.1 hi
   have hks:i<listed.size:=by
    rcases Oh i listed.size with h|h
    ·exact h
    ·simp[P3 h]at h1
   have hfl:listed[i]=false:=by simpa[hks]using h1
   obtain⟨τ,t1,t2,t3,t4,t5,e1,H1,t6,t7⟩:=hj
   have hiτ:i∉τ:=fun h=>by have:=(t2 i).2 h;simp[hks,hfl]at this
   have hclo:∀k,dep bs k i→k∈τ:=by
    intro k hk
    have h2:((aW ops.toList).getD i 0).testBit k=true:=by rw[hbs];exact hk
    refine iw (S:=fun k=>k∈τ) (fun j o' hj ho' e' he' hb=>t5 j hj o' ho' e' he' hb) i k (fun o' ho' e' he' hb=>?_) h2
    ·have:ops.toList[i]?=some o:=by simpa using ho
     rw[this]at ho';cases ho'
     exact(t2 _).1 (hafter e' he' hb)
   have hil:i<l.length:=by omega
   have hdc:∀j∈τ,∀k,dep bs k j→k∈τ:=by
    intro j hj k hk
    have h2:((aW ops.toList).getD j 0).testBit k=true:=by rw[hbs];exact hk
    exact iw (S:=fun k=>k∈τ) (fun j o' hj ho' e' he' hb=>t5 j hj o' ho' e' he' hb) j k (fun o' ho' e' he' hb=>t5 j hj o' ho' e' he' hb) h2
   obtain⟨oi,hoi⟩:∃oi,l[i]?=some oi:=⟨_,N4 hil⟩
   obtain⟨rest,hrest⟩:∃rest,(List.range l.length).filter (fun k=>decide (k∉τ++[i]))=rest:=⟨_,rfl⟩
   have hrm:∀k,k∈rest↔k<l.length∧k∉τ∧k≠i:=by
    intro k
    rw[←hrest]
    simp[Pf]
   have hnd:(τ++[i]++rest).Nodup:=by
    rw[Ps]
    refine⟨Ps.2 ⟨t1,by simp,fun x hx y hy=>?_⟩,?_,fun x hx y hy=>?_⟩
    ·simp at hy;subst hy;exact fun h=>hiτ (h▸hx)
    ·rw[←hrest];exact QX.filter _
    ·have:=(hrm y).1 hy
     rcases PJ.1 hx with hx|hx
     ·exact fun h=>this.2.1 (h▸hx)
     ·simp at hx;subst hx;exact fun h=>this.2.2 h.symm
   have hltall:∀k∈τ++[i]++rest,k<l.length:=by
    intro k hk'
    rcases PJ.1 hk' with hk'|hk'
    ·rcases PJ.1 hk' with hk'|hk'
     ·exact t3 k hk'
     ·simp at hk';omega
    ·exact((hrm k).1 hk').1
   have hlen2:(τ++[i]++rest).length=l.length:=by
    have h1:=cz (List.range l.length) (τ++[i]++rest) QX (fun j hj=>by
     by_cases hj1:j∈τ
     ·simp[hj1]
     ·by_cases hj2:j=i
      ·simp[hj2]
      ·exact P6 _ ((hrm j).2 ⟨Of.1 hj,hj1,hj2⟩))
    have h2:=cz (τ++[i]++rest) (List.range l.length) hnd (fun j hj=>Of.2 (hltall j hj))
    rw[PA]at h1 h2
    omega
   have hcons:(τ++[i]++rest).Pairwise (fun j i=>¬dep bs i j):=by
    rw[Pt]
    refine⟨Pt.2 ⟨t4,by simp,fun j hj k hk' hd=>?_⟩,?_,fun j hj k hk' hd=>?_⟩
    ·simp at hk';subst hk'
     exact hiτ (hdc j hj _ hd)
    ·rw[←hrest]
     refine List.Pairwise.filter _ (List.pairwise_lt_range.imp (fun{a b} hab hd=>?_))
     have:=hbk _ _ hd;omega
    ·have h3:=(hrm k).1 hk'
     rcases PJ.1 hj with hj|hj
     ·exact h3.2.1 (hdc j hj _ hd)
     ·simp at hj;subst hj;exact h3.2.1 (hclo _ hd)
   obtain⟨e3,r1,r2⟩:=hfull _ hnd hltall hlen2 hcons
   rw[cd,cd,NR,cC,t6]at r1
   simp only[OV]at r1
   rw[cC]at r1
   obtain⟨s4,r3,_⟩:=NS.1 r1
   rw[eh hoi,cg]at r3
   obtain⟨s5,r4,r5⟩:=NS.1 r3
   have hops:ops[i]?=some (ops[i]'(by omega)):=Od (by omega)
   have hco:fX C.P C.cU f nt ops (ops[i]'(by omega))=some oi:=g2 i _ _ (by simpa using hops) hoi
   refine wF hrec hops hco (show stepG rec oi e1 H1=some (s5.1,s5.2)from r4) t7 (fun a' w' hrel'=>ih _ a' w' (by simpa using hsz) ?_ ⟨τ++[i],?_,?_,?_,?_,?_,s5.1,s5.2,?_,hrel'⟩)
   ·unfold Au at hu⊢
    rw[Array.toList_setIfInBounds,List.count_set (by simpa using hks)]
    have hq:listed.toList[i]'(by simpa using hks)=false:=by simpa using hfl
    rw[hq]
    simp only[O8,if_true]
    have:((true==false)=true)=False:=by simp
    simp only[this,if_false]
    omega
   ·exact(Ps.1 hnd).1
   ·intro j
    by_cases hji:j=i
    ·subst hji;simp[hks]
    ·have:(listed.setIfInBounds i true).getD j false=listed.getD j false:=by simp[Oz (Ne.symm hji)]
     rw[this,t2 j]
     simp[hji]
   ·intro j hj;exact hltall j (Pj _ hj)
   ·exact(Pt.1 hcons).1
   ·intro j hj o' ho' e' he' hb
    rcases PJ.1 hj with hj|hj
    ·exact Pj _ (t5 j hj o' ho' e' he' hb)
    ·simp at hj;subst hj
     have:ops.toList[j]?=some o:=by simpa using ho
     rw[this]at ho';cases ho'
     exact Pj _ ((t2 _).1 (hafter e' he' hb))
   ·rw[cd,cC,t6]
    simp only[OV]
    rw[eh hoi,cg,r4]
    rfl
 refine main ops.size _ a _ (by simp) ?_ ⟨[],QP,fun j=>?_,by simp,List.Pairwise.nil,by simp,e,H,rfl,hrel0⟩
 ·unfold Au;simp
 ·by_cases hj:j<ops.size<;>simp[hj]
end
end
section
section
variable{C:Ctx}{rec:Rec}{f:FuncId}{nt:Nat}
theorem xP{c:Code}{c1:bO}(h:fm C rec nt c c1):∀vs,fm C rec nt c (vM c1 vs)
 |[]=>h
 |v::vs=>by
  intro ro n B Q R k r e H a w hro hrun hk hrel
  simp only[vM,run]at hrun
  refine h ro n B Q R _ r e H a w hro hrun (fun x e' H' a' w' hx hr=>?_) hrel
  cases x with
  |exit id=>exact hk _ _ _ _ _ hx hr
  |ret=>exact hk _ _ _ _ _ hx hr
  |normal=>
   simp only at hx
   unfold ay at hx
   split at hx
   ·rename_i p hp
    exact hk .normal _ _ _ _ hx (kx (v::vs) hp hr)
   ·cases hx
theorem xA{ρ:Map}{F:Nat→Prop}{H:ae}{w:World}{c:SV}{v:Value}{em:Bool}(hr:HR C ρ F H w)(hs:uw H c=some em)(hv:VR w F ρ c v):∃q n cap,v=.slice q n cap∧(em=false→q.isNone=false):=by
 unfold uw at hs
 split at hs
 ·rename_i z L f
  cases hs
  cases hv with
  |aB V hcap hfull hz hat h1 hv=>
   rename_i q cap
   refine⟨q,_,_,rfl,fun hL=>?_⟩
   rcases hat with h0|⟨B,o,ha,_⟩
   ·subst h0;cases hL
   ·subst ha;rfl
 ·rename_i b' v' off n
  replace hs:=af hs
  obtain⟨hc,hs⟩:=hs
  cases hs
  obtain⟨l,z2,L2,ex2,hl,hb2,hbr,g1,g2⟩:=dh hr hc hv
  cases hvi:l.aL with
  |true=>
   obtain⟨q,p1,p2,p3⟩:=g1 hvi
   exact⟨q,0,0,p1,fun h=>by simp at h;omega⟩
  |false=>
   obtain⟨p1,q,p2,p3⟩:=g2 hvi
   refine⟨q,_,_,p2,fun h=>?_⟩
   have hn:n≠0:=by simpa using h
   have:=p3 (by omega)
   subst this
   rfl
 ·cases hs
theorem Bz{x:Code}{y:Code}{y1:bO}{ops:Array Oper}{l:List Oper}{l1:List ak}{d:Nat}{neg:Bool}{x':bj}(hrec:eP C rec)(hp:rW C.P nt x=some (ops,l,d,neg,x'))(hl:bc (l.map (fX C.P C.cU f nt ops))=some l1)
 (hy:fm C rec nt y y1):fm C rec nt (.seq x y) (.seq (.ops l1) (.Ao d neg x' y1)):=by
 intro ro n B Q R k r e H a w hro hrun hk hrel
 unfold rW at hp
 split at hp
 rotate_left
 ·cases hp
 rename_i id ops'
 split at hp
 rotate_left
 ·cases hp
 rename_i o ho
 split at hp
 rotate_left
 ·cases hp
 rename_i d0 op t xo yo yt hd hg c0
 split at hp
 rotate_left
 ·cases hp
 rename_i x0 el hx0 hu
 split at hp
 rotate_left
 ·cases hp
 rename_i nk neg0 x2 hcn
 replace hp:=af hp
 obtain⟨hdn,hp⟩:=hp
 replace hdn:=PQ hdn
 simp only[N1,N3]at hp
 obtain⟨rfl,rfl,rfl,rfl,rfl⟩:=hp
 have hx2:x2=x0∧nk=.s:=by
  unfold rq at hcn
  split at hcn<;>simp_all
 obtain⟨rfl,rfl⟩:=hx2
 have hne:ops'.toList≠[]:=by intro h;rw[h]at ho;cases ho
 have hsz:0<ops'.size:=by
  rcases Nat.eq_zero_or_pos ops'.size with h|h
  ·exact absurd (by simpa using h) hne
  ·exact h
 have hlast:ops'[ops'.size-1]?=some o:=by
  rw[List.getLast?_eq_getElem?]at ho
  simpa using ho
 have hdl:ops'.toList.dropLast=ops'.toList.take (ops'.size-1):=by rw[List.dropLast_eq_take];simp
 rw[hdl]at hl
 refine wpIn_seq (wpIn_region ?_)
 obtain⟨m,hm⟩:∃m,ops'.size=m+1:=⟨ops'.size-1,by omega⟩
 have hrange:List.range ops'.size=List.range' 0 m++[m]:=by
  rw[hm,QZ,List.range'_1_concat]
  simp
 rw[hrange]
 rw[hm,QI]at hlast hl
 simp only[run]at hrun
 refine lV hrec (f:=f) (ops:=ops') (m:=m) (by omega) (fun e' H' a' w' h hr=>?_) m 0 l1 (by omega) (by simpa using hl) e H a w hrun hrel
 simp only[wpOpsIn,hlast]
 have hw:Region.wanted o (yielded ops' a'.tmps)=true:=by simp[Region.wanted,hg]
 rw[hw,if_pos rfl]
 refine⟨fun _ _=>trivial,?_⟩
 rw[Oper.semAt_eq _ _ _ (fun c hc=>by rw[c0]at hc;cases hc)]
 obtain⟨ρ,F,hr1,he1,hput⟩:=hr.step (P:=fun _ _=>True)
 have hv:=ar hx0 he1
 unfold n5 at h
 have fin:∀b,uU .s (a'.eval xo)=some b→run rec y1 ((d0,.bool (neg0 ^^ b))::e') H' k ()=some r→y.wpIn (WF ro) n C.P Q (a'.put o.dst (.bool (neg0 ^^ b))) w'∧(execOp a'.eval o).run C.P w'=.ok (.value (.bool (neg0 ^^ b))) w':=by
  intro b hb hrun'
  have hx:(execOp a'.eval o).run C.P w'=.ok (.value (.bool (neg0 ^^ b))) w':=by
   simp only[execOp,c0]
   have:=pX (C:=C) (w:=w') (a:=a') (x:=xo) hcn hu hb
   rw[Sem.run_bind,this]
   rfl
  refine⟨?_,hx⟩
  have h2:=hput o.dst (.bool (neg0 ^^ b)) H' (.bool (neg0 ^^ b)) w' (fun d hd'=>by rw[hd]at hd';cases hd';exact hdn) (cN.same hr1 (.bool _))
  rw[hd]at h2⊢
  exact hy ro n B Q R k r _ H' _ w' hro hrun' hk h2
 split at h
 ·cases h
 ·rename_i hem
  obtain⟨q,m1,cap,hq,hno⟩:=xA hr1 hem hv
  obtain⟨g1,g2⟩:=fin false (by rw[hq,uU,hno rfl]) (by simpa using h)
  rw[g2]
  exact g1
 ·rename_i hem
  obtain⟨q,m1,cap,hq,hno⟩:=xA hr1 hem hv
  split at h
  ·rename_i heq
   have hb:run rec y1 ((d0,.bool (neg0 ^^ q.isNone))::e') H' k ()=some r:=by
    cases hx:(neg0 ^^ q.isNone)with
    |true=>exact h
    |false=>exact heq.symm.trans h
   obtain⟨g1,g2⟩:=fin q.isNone (by rw[hq,uU]) hb
   rw[g2]
   exact g1
  ·cases h
theorem fa{P:Program}{b:Frame}{a:Act}{k:List Item}{cs:List Frame}{w:World}{c:Code}:step P (lone (b.atR a (.code (.scope c)::k)) cs w)=.next (lone (b.atR a (.code c::.inScope c::k)) cs w):=
 step_lone_go (by simp[Go.stepG,Go.stepG.exec,Frame.atR])
theorem og{P:Program}{b:Frame}{a:Act}{k:List Item}{cs:List Frame}{w:World}{c:Code}:step P (lone (b.atR a (.inScope c::k)) cs w)=.next (lone (b.atR a k) cs w):=
 step_lone_go (by simp[Go.stepG,Go.stepG.exec,Frame.atR])
def J9(Q:Exit→Act→World→Prop):Exit→Act→World→Prop
 | .goto _,_,_=>False
 |e,a,w=>Q e a w
theorem sO{F:Fence}{n:Nat}{P:Program}{Q:Exit→Act→World→Prop}{a:Act}{w:World}{c:Code}(h:c.wpIn F n P (J9 Q) a w):(Code.scope c).wpIn F n P Q a w:=by
 intro b k cs hro hb hr
 have h0:(lone (b.atR a (.code (.scope c)::k)) cs w).fenced P F:=fenced_calm hb hr rfl
 obtain⟨e,a₁,w₁,hq,harr⟩:=h b (.inScope c::k) cs hro hb hr
 cases e with
 |normal=>exact⟨.normal,a₁,w₁,hq,.head h0 fa (StepsIn.trans harr (.one (fenced_calm hb hr rfl) og))⟩
 |exit id=>exact⟨_,a₁,w₁,hq,.of_steps (.one h0 fa) ⟨fun k' hk=>harr.1 k' (by simp[exitTo,hk]),fun hr hk=>harr.2 hr (by simp[exitTo,hk])⟩⟩
 |goto l=>exact hq.elim
 |ret=>exact⟨_,a₁,w₁,hq,.of_steps (.one h0 fa) harr⟩
 |panic ch=>exact⟨_,a₁,w₁,hq,.of_steps (.one h0 fa) harr⟩
 |outgrown=>exact⟨_,a₁,w₁,hq,.of_steps (.one h0 fa) harr⟩
theorem mM(hmix:C.P.follows .mixedOrders=true)(hrec:eP C rec):∀(c:Code) (c1:bO),dw C.P C.cU f nt c=some c1→fm C rec nt c c1:=by
 intro c
 induction c with
 |skip=>
  intro c1 h ro n B Q R k r e H a w hro hrun hk hrel
  cases h
  exact wpIn_skip (hk .normal e H a w hrun hrel)
 |label l=>
  intro c1 h ro n B Q R k r e H a w hro hrun hk hrel
  cases h
  exact wpIn_label (hk .normal e H a w hrun hrel)
 |scope x ih=>
  intro c1 h ro n B Q R k r e H a w hro hrun hk hrel
  exact sO (ih c1 h ro n B _ R k r e H a w hro hrun (fun x e' H' a' w' h hr=>by
   have:=hk x e' H' a' w' h hr
   cases x<;>exact this) hrel)
 |region id ops draw=>
  intro c1 h
  simp only[dw,NP]at h
  obtain⟨c2,h,rfl⟩:=h
  apply xP
  apply mY
  cases hprm:(draw&&C.cU.Lr f id)with
  |true=>
   rw[hprm]at h
   simp only[N6]at h
   rw[NX]at hprm
   obtain⟨rfl,_⟩:=hprm
   exact yR hmix hrec h
  |false=>
  rw[hprm]at h
  simp only[Oa]at h
  unfold tE at h
  split at h
  ·cases h
  ·rename_i l hl
   cases draw with
   |true=>
    simp only[N6,NP]at h
    obtain⟨d,hd,rfl⟩:=h
    exact xC hmix hrec hl hd
   |false=>
    simp only[Oa,N1]at h
    subst h
    intro ro n B Q R k r e H a w hro hrun hk hrel
    refine wpIn_region ?_
    rw[QZ]
    exact uX hrec (k:=k .normal) (r:=r) (fun e' H' a' w' h hr=>hk .normal e' H' a' w' h hr) ops.size 0 l (by simp) (by simpa using hl) e H a w hrun hrel
 |seq x y ihx ihy=>
  intro c1 h
  simp only[dw]at h
  split at h
  ·rename_i ops l d neg x' hp
   split at h
   ·rename_i l1 y1 h1 h2
    cases h
    exact Bz hrec hp h1 (ihy y1 h2)
   ·cases h
  split at h
  ·rename_i x1 y1 h1 h2
   cases h
   intro ro n B Q R k r e H a w hro hrun hk hrel
   simp only[run]at hrun
   refine wpIn_seq (ihx x1 h1 ro n B _ R _ r e H a w hro hrun (fun x e' H' a' w' h hr=>?_) hrel)
   cases x with
   |normal=>exact ihy y1 h2 ro n B Q R k r e' H' a' w' hro h hk hr
   |exit id=>exact hk (.exit id) e' H' a' w' h hr
   |ret=>exact hk .ret e' H' a' w' h hr
  ·cases h
 |cond c x y ihx ihy=>
  intro c1 h ro n B Q R k r e H a w hro hrun hk hrel
  simp only[dw]at h
  split at h
  ·rename_i c' x1 y1 h0 h1 h2
   cases h
   simp only[run]at hrun
   unfold mU at hrun
   split at hrun
   ·rename_i b hb
    obtain⟨ρ,F,hr,he,_⟩:=id hrel
    have hv:=ar h0 he
    rw[hb]at hv
    have hv:=dC hv
    dsimp only at hrun
    unfold fork at hrun
    cases b with
    |true=>exact wpIn_cond_true hv (ihx x1 h1 ro n B Q R k r e H a w hro hrun hk hrel)
    |false=>exact wpIn_cond_false hv (ihy y1 h2 ro n B Q R k r e H a w hro hrun hk hrel)
   ·cases hrun
  ·cases h
 |block id x ih=>
  intro c1 h ro n B Q R k r e H a w hro hrun hk hrel
  simp only[dw,NP]at h
  obtain⟨x1,h1,rfl⟩:=h
  simp only[run]at hrun
  refine wpIn_block (ih x1 h1 ro n B _ R _ r e H a w hro hrun (fun x e' H' a' w' h hr=>?_) hrel)
  cases x with
  |normal=>exact hk .normal e' H' a' w' h hr
  |exit j=>
   simp only[xQ,Exit.inBlock]
   dsimp only at h
   cases hj:(j==id)with
   |true=>
    rw[hj]at h
    have:j=id:=by simpa using hj
    rw[if_pos this]
    exact hk .normal e' H' a' w' h hr
   |false=>
    rw[hj]at h
    have:¬j=id:=by simpa using hj
    rw[if_neg this]
    exact hk (.exit j) e' H' a' w' h hr
  |ret=>exact hk .ret e' H' a' w' h hr
 |loop x ih=>
  intro c1 h
  simp only[dw,NP]at h
  obtain⟨x1,h1,rfl⟩:=h
  exact y7 (ih x1 h1)
 |rangeFunc g ps x y ihx ihy=>
  intro c1 h
  simp only[dw]at h
  split at h
  ·rename_i g' x1 y1 h0 h1 h2
   replace h:=dV h
   obtain⟨hp,h⟩:=h
   cases h
   exact vd hrec h0 (fun t ht=>by
    have:=List.any_eq_false.1 hp t ht
    simpa using this) h1 h2
  ·cases h
 |exit id=>
  intro c1 h ro n B Q R k r e H a w hro hrun hk hrel
  cases h
  exact wpIn_exit (hk (.exit id) e H a w hrun hrel)
 |ret=>
  intro c1 h ro n B Q R k r e H a w hro hrun hk hrel
  cases h
  exact wpIn_ret (hk .ret e H a w hrun hrel)
 |_=>intro c1 h;simp[dw]at h
end
end
section
section
variable{C:Ctx}{ρ ρ0 ρ':Map}{F F0 F':Nat→Prop}{H H0 H' H1:ae}{w w0 w':World}
theorem xy(xs:List SV):∀(k t:Nat),get (ef.go k xs) t=if k≤t then(xs[t-k]?).getD .undef else .undef:=by
 induction xs with
 |nil=>intro k t;simp[ef.go,get]
 |cons x r ih=>
  intro k t
  simp only[ef.go,get,ih]
  cases h:(t==k)with
  |true=>
   have:t=k:=by simpa using h
   subst this;simp
  |false=>
   have:t≠k:=by simpa using h
   simp only[Oa]
   by_cases hk:k≤t
   ·rw[if_pos hk,if_pos (by omega),show t-k=(t-(k+1))+1 by omega];rfl
   ·rw[if_neg hk,if_neg (by omega)]
theorem sW{xs:List SV}{args:Array Value}{n:Nat}(h:fp w F ρ xs args):ER w F ρ (ef xs) (args++Array.replicate n undef):=by
 intro t
 unfold ef
 rw[xy]
 simp only[PO,if_true,Nat.sub_zero]
 cases hx:xs[t]? with
 |none=>exact .undef _
 |some c=>
  have hlt:=(NT.1 hx).1
  have hn:=h.1
  have hv:args[t]?=some args[t]:=Od (by omega)
  have:=h.2 t c _ hx hv
  rw[O4,Qy (by omega),hv]
  exact this
def yy(tmps:Array Value):ResultVar→Sem Value
 | .tmp t=>pure (tmps.getD t undef)
 | .cell a t=>do loadVar t (←asAddr (tmps.getD a undef))
theorem sx(fn:Func)(tmps:Array Value):results fn tmps=(do let vs←fn.results.mapM (yy tmps);pure (if h:vs.size=1 then vs[0]else .tuple vs)):=by
 unfold results
 congr 1
theorem wb{e:Env}{tmps:Array Value}{rv:ResultVar}{r1:rn}{s:SV}(hr:HR C ρ F H w)(he:ER w F ρ e tmps)(h1:uF C.P rv=some r1)(h2:dS e H r1=some s) :
 ∃val,(yy tmps rv).run C.P w=.ok val w∧VR w F ρ s val:=by
 unfold uF at h1
 split at h1
 ·cases h1
  cases h2
  exact⟨_,rfl,he _⟩
 ·split at h1
  ·rename_i ag n hag hsz
   cases h1
   obtain⟨q,val,hu,k1,k2⟩:=tT hag hsz hr (he _) h2
   refine⟨val,?_,k2⟩
   simp only[yy,hu,asAddr,Sem.run_bind,Sem.run_pure,Result.andThen]
   exact k1
  ·cases h1
theorem sZ{e:Env}{tmps:Array Value}(hr:HR C ρ F H w)(he:ER w F ρ e tmps):∀(rvs:List ResultVar) (r1s:List rn) (ss:List SV),bc (rvs.map (uF C.P))=some r1s→bc (r1s.map (dS e H))=some ss→
 ∃eJ:List Value,(rvs.mapM (yy tmps)).run C.P w=.ok eJ w∧ss.length=eJ.length∧
  ∀(j:Nat) c v,ss[j]?=some c→eJ[j]?=some v→VR w F ρ c v
 |[],r1s,ss,h1,h2=>by
  simp[bc]at h1;subst h1
  simp[bc]at h2;subst h2
  exact⟨[],rfl,rfl,by simp⟩
 |rv::rvs,r1s,ss,h1,h2=>by
  simp only[Ov]at h1
  cases hc:uF C.P rv with
  |none=>rw[hc]at h1;simp[bc]at h1
  |some r1=>
   rw[hc]at h1
   simp only[bc,NP]at h1
   obtain⟨r1s',h1',rfl⟩:=h1
   simp only[Ov]at h2
   cases hs:dS e H r1 with
   |none=>rw[hs]at h2;simp[bc]at h2
   |some s=>
    rw[hs]at h2
    simp only[bc,NP]at h2
    obtain⟨ss',h2',rfl⟩:=h2
    obtain⟨val,k1,k2⟩:=wb hr he hc hs
    obtain⟨eJ,q1,q2,q3⟩:=sZ hr he rvs r1s' ss' h1' h2'
    refine⟨val::eJ,?_,by simp[q2],fun j c v hj hv=>?_⟩
    ·simp only[List.mapM_cons,Sem.run_bind,k1,q1,Result.andThen,Sem.run_pure]
    ·cases j with
     |zero=>simp at hj hv;subst hj;subst hv;exact k2
     |succ j=>simp at hj hv;exact q3 j c v hj hv
theorem mQ{e:Env}{tmps:Array Value}{fn:Func}{r1s:List rn}{s:SV}(hr:HR C ρ F H w)(he:ER w F ρ e tmps)(h1:bc (fn.results.toList.map (uF C.P))=some r1s)(h2:results1 e H r1s=some s) :
 ∃val,(results fn tmps).run C.P w=.ok val w∧VR w F ρ s val:=by
 unfold results1 at h2
 simp only[NP]at h2
 obtain⟨ss,h2,h3⟩:=h2
 obtain⟨eJ,k1,k2,k3⟩:=sZ hr he _ _ _ h1 h2
 refine⟨if h:eJ.toArray.size=1 then eJ.toArray[0]else .tuple eJ.toArray,?_,?_⟩
 ·rw[sx]
  simp only[Sem.run_bind,Array.mapM_eq_mapM_toList,Sem.run_map]
  rw[k1]
  rfl
 ·split at h3
  ·rename_i v
   subst h3
   have hl:eJ.length=1:=by simpa using k2.symm
   match eJ,hl with
   |[x],_=>exact k3 0 v x rfl rfl
  ·rename_i hne
   subst h3
   have:¬eJ.toArray.size=1:=by
    intro h
    simp only[List.size_toArray]at h
    match ss,k2 with
    |[v],_=>exact hne v rfl
    |[],k2=>simp at k2;omega
    |_::_::_,k2=>simp at k2;omega
   rw[dif_neg this]
   exact .ax (by simpa using k2) (fun j c v hj hv=>k3 j c v hj (by simpa using hv))
theorem lx{P:Program}{fn:Func}{tmps:Array Value}{R:Ending→World→Prop}{n:Nat}:∀(Ds:List Nat) (ds:List Deferred) (w:World),ds.map (·.target)=Ds.map Target.collected→Ds.Nodup→
 (∀D∈Ds,w.heap[D]?=some (.deferred (some [])))→
 (∀w':World,w'.heap.size=w.heap.size→(w'.os=w.os∧w'.output=w.output)→(∀B,B∉Ds→w'.heap[B]?=w.heap[B]?)→LeavesIn Fence.wide n P fn tmps R [] .returning w')→LeavesInM Fence.wide n P fn tmps R ds .returning w
 |[],ds,w,h1,_,_,hf=>by
  have:ds=[]:=by simpa using h1
  subst this
  exact hf w rfl ⟨rfl,rfl⟩ (fun _ _=>rfl)
 |D::Ds,ds,w,h1,h2,h3,hf=>by
  cases ds with
  |nil=>simp at h1
  |cons d ds=>
   simp only[Ov,Q8]at h1
   have hnd:=PS.1 h2
   refine⟨by simp,.inl ⟨D,_,h1.1,run_takeDeferred (h3 D (Oi ..)),lx Ds ds _ h1.2 hnd.2 (fun D' hD'=>?_) (fun w' hs ho hh=>hf w' (by rw[hs];simp) ho (fun B hB=>?_))⟩⟩
   ·rw[World.putObj_heap_other (by intro e;subst e;exact hnd.1 hD')]
    exact h3 D' (OW _ hD')
   ·rw[hh B (fun h=>hB (OW _ h)),World.putObj_heap_other (by intro e;subst e;exact hB (Oi ..))]
def wa(C:Ctx)(k:Nat)(f:FuncId):Prop:=∀(xs:List SV) (v:SV) (args:Array Value) (ρ:Map) (F:Nat→Prop) (H:ae) (w:World),iJ k H.bl xs=some v→HR C ρ F H w→fp w F ρ xs args→
 (callFunc f args).run C.P w=.ok (.enter f args) w∧∃val,pe v=some val∧Calls C.P f args w (fun e w'=>e=.returned val∧w'.os=w.os∧w'.output=w.output∧w.heap.size≤w'.heap.size∧∀B,B<w.heap.size→w'.heap[B]?=w.heap[B]?)
def nw(C:Ctx):Prop:=∀f k,C.cU.ext f=some k→wa C k f
theorem pI{k:Nat}{xs:List SV}{v:SV}{bl:List aj}(h:iJ k bl xs=some v):∃y,pe v=some y:=by
 unfold iJ at h
 split at h
 ·split at h
  ·replace h:=af h
   obtain⟨_,h⟩:=h
   simp only[NS]at h
   obtain⟨l,_,h⟩:=h
   replace h:=af h
   cases h.2
   exact⟨_,rfl⟩
  ·cases h
 ·replace h:=af h
  obtain⟨_,h⟩:=h
  cases h
  exact⟨_,rfl⟩
 ·cases h
theorem sE{k:Nat}{xs:List SV}{v:SV}{bl:List aj}(h:iJ k [] xs=some v):iJ k bl xs=some v:=by
 unfold iJ at h
 split at h
 ·simp at h
 ·exact h
 ·cases h
theorem rl(xs:List SV):(ef xs).map (·.2)=xs:=by
 have:∀(xs:List SV) k,(ef.go k xs).map (·.2)=xs:=by
  intro xs
  induction xs with
  |nil=>intro k;rfl
  |cons x r ih=>intro k;simp only[ef.go,Ov,ih]
 exact this xs 0
theorem xm{N d:Nat}{c:SV}{y:Value}(hs:pe c=some y):eg N H (d+1) c=some c:=by
 unfold pe at hs
 split at hs<;>first|rfl|(simp[eg,SV.refs];done)|cases hs
theorem rT{f:FuncId}{k:Nat}{xs:List SV}{v:SV}{args:Array Value}(hx:wa C k f)(h:iJ k H.bl xs=some v)(hr:HR C ρ F H w)(ha:fp w F ρ xs args) :
 (callFunc f args).run C.P w=.ok (.enter f args) w∧∀n,CallsIn Fence.wide n C.P f args w (fun e w'=>∃val,e=.returned val∧cN C ρ F H w v H val w'):=by
 obtain⟨h1,val,h2,h3⟩:=hx xs v args ρ F H w h hr ha
 refine⟨h1,fun n=>(callsIn_wide.2 h3).mono (fun e w' he=>?_)⟩
 obtain⟨rfl,ho,hq,hs,hb⟩:=he
 obtain⟨p1,p2⟩:=hr.same hs hb ⟨ho,hq⟩
 exact⟨val,rfl,ρ,F,vq h2,p1,p2⟩
variable{T:FuncId→Option aC}{m:Nat}
theorem yC(hmix:C.P.follows .mixedOrders=true)(hext:nw C)(hT:∀f F1,T f=some F1→se C.P C.cU f=some F1)(hrec:eP C (ab T m)):vS C (ab T (m+1)):=by
 intro f xs H v H' h ρ F w args hr ha
 simp only[ab]at h
 split at h
 ·cases h
 rename_i F1 hF1
 have hc:=hT f F1 hF1
 unfold se at hc
 split at hc
 ·rename_i k hk
  cases hc
  have hrun:∀{R:Type} (e:Env) (H:ae) (K:mJ→Env→ae→Option R),run (ab T m) (.ext k) e H K ()=ay (iJ k H.bl (e.map (·.2))) (fun v=>K .ret ((0,v)::e) H) ():=fun _ _ _=>rfl
  simp only[hrun,rl]at h
  have hd:dc=7+1:=rfl
  cases hp:gT ⟨[.tmp 0],.ext k,false⟩ xs with
  |true=>
   rw[hp]at h
   simp only[N6,av]at h
   cases hv:iJ k [] xs with
   |none=>rw[hv]at h;simp[ay]at h
   |some v0=>
    obtain⟨y,hy⟩:=pI hv
    rw[hv]at h
    simp only[ay,results1,Ov,PG,dS,get,O8,N6,bc,Oo,OV,hd,xm hy,N1,N3]at h
    obtain⟨rfl,rfl⟩:=h
    exact rT (hext _ _ hk) (sE hv) hr ha
  |false=>
   rw[hp]at h
   simp only[Oa]at h
   cases hv:iJ k H.bl xs with
   |none=>rw[hv]at h;simp[ay]at h
   |some v0=>
    obtain⟨y,hy⟩:=pI hv
    rw[hv]at h
    simp only[ay,results1,Ov,PG,dS,get,O8,N6,bc,Oo,OV,cW,Oa,hd,xm hy,du,NV,decide_true,List.all_nil,Rt,List.filter_nil,OS,PL,N1,N3]at h
    obtain⟨rfl,rfl⟩:=h
    exact rT (H:=H) (hext _ _ hk) hv hr ha
 split at hc
 ·cases hc
 rename_i fn hfn
 split at hc
 ·cases hc
 rename_i body hbody
 replace hc:=dV hc
 obtain⟨hname,hc⟩:=hc
 split at hc
 rotate_left
 ·cases hc
 rename_i b1 rs hb1 hrs
 cases hc
 refine⟨?_,fun n=>?_⟩
 ·unfold callFunc
  have hname':¬fn.name= "runtime.NumGoroutine" :=by simpa using hname
  simp[Sem.run_bind,Sem.run,hfn,hname',hbody]
 ·have go:∀(R:Type) (fin:SV→ae→Option R) (r:R) (Q:Value→World→Prop) (ρ:Map) (H:ae),HR C ρ F H w→fp w F ρ xs args→
        run (ab T m) b1 (ef xs) {bl:=H.bl,bC:=[],ro:=min H.ro H.bl.length} (fun x e H'=>match x with
         | .exit _=>none
         |_=>(results1 e H' rs).bind fun v=>fin v H') ()=some r→
        (∀v0 ρ2 F2 H2 w2 val,HR C ρ2 F2 H2 w2→Ext C ρ F {bl:=H.bl,bC:=[],ro:=min H.ro H.bl.length} w ρ2 F2 H2 w2→VR w2 F2 ρ2 v0 val→fin v0 H2=some r→Q val w2)→
        CallsIn Fence.wide n C.P f args w (fun e w'=>∃val,e=.returned val∧Q val w'):=by
   intro R fin r Q ρ H hr ha h hfin
   refine callsIn_of_wp_marks hfn hbody trivial ?_
   let B:iL:=⟨ρ,F,{bl:=H.bl,bC:=[],ro:=min H.ro H.bl.length},w,w.heap.size⟩
   refine mM hmix hrec body b1 hb1 none n B _ _ _ r (ef xs) B.H _ w (fun l hl=>by cases hl) h (fun x e' H2 a' w' hk hrel=>?_)
    ⟨ρ,F,hr.bl rfl,sW ha,Ext.refl _ _ _ _,by simp;omega,NV _,[],rfl,QP,by simp⟩
   have hgo:((results1 e' H2 rs).bind fun v=>fin v H2)=some r→
    LeavesInM Fence.wide n C.P fn a'.tmps (fun e w'=>∃val,e=.returned val∧Q val w') a'.defers .returning w':=by
    intro hk
    simp only[NS]at hk
    obtain⟨v0,h1,h2⟩:=hk
    obtain⟨ρ2,F2,q1,q2,q3,q4,q5,Ds,q6,q7,q8⟩:=hrel
    refine lx Ds _ _ q6 q7 (fun D hD=>(q8 D hD).2.1) (fun w2 hs ho hh=>?_)
    obtain⟨z1,z2⟩:=q1.other q3 hs ho (fun Bk hB=>hh Bk (fun hD=>by
     obtain⟨g1,g2,g3,g4⟩:=q8 Bk hD
     rcases hB with hB|⟨b,l,ho,e⟩|hB
     ·exact g3 hB
     ·exact g4 b l ho e
     ·have:Bk<w.heap.size:=hB
      have:w.heap.size≤Bk:=g1
      omega))
    have he2:ER w2 F2 ρ2 e' a'.tmps:=fun t=>(q2 t).mono (fun Bk hB=>hh Bk (fun hD=>(q8 Bk hD).2.2.1 hB)) (fun _ h=>h) (Map.le_refl _)
    obtain⟨val,r1,r2⟩:=mQ z1 he2 hrs h1
    exact⟨val,r1,val,rfl,hfin v0 ρ2 F2 H2 w2 val z1 z2 r2 h2⟩
   cases x with
   |normal=>exact hgo hk
   |ret=>exact hgo hk
   |exit id=>cases hk
  cases hp:gT ⟨rs,b1,(C.cU.keep f).isSome⟩ xs with
  |false=>
   rw[hp]at h
   exact go _ (fun v H2=>cW (C.cU.keep f).isSome H v H2) (v,H') _ ρ H hr ha h (fun v0 ρ2 F2 H2 w2 val k1 k2 k3 k4=>kR hr k1 k2 k3 k4)
  |true=>
   rw[hp]at h
   simp only[N6,NP,N3]at h
   obtain⟨v',h,rfl,rfl⟩:=h
   unfold gT at hp
   simp only[NX,O1,Ot]at hp
   obtain⟨h0,hkeep⟩:=hp
   have hcut:ρ.cut 0=cO:=by funext b;simp[Map.cut]
   have hr0:HR C cO F av w:=⟨(fun b l h=>by cases h),(fun b x h=>by simp[av]at h),(fun b b' l l' h=>by cases h.2.1),(fun b l h=>by cases h.2.1),hr.fO⟩
   have ha0:fp w F cO xs args:=⟨ha.1,fun j c v hc hv=>by
    have:=(ha.2 j c v hc hv).cut 0 (dT (PF h0) j c hc)
    rwa [hcut]at this⟩
   refine(go _ (fun v H2=>eg 0 H2 dc v) v' (fun val w2=>cN C cO F av w v' av val w2) cO av hr0 ha0 h (fun v0 ρ2 F2 H2 w2 val k1 k2 k3 k4=>kR (keep:=false) (v:=v0) hr0 k1 k2 k3 ?_)).mono (fun e w' he=>?_)
   ·have hall:H2.bC.all (fun p=>!(decide (p.1<0)&&decide (0<p.2)))=true:=N5.2 (fun p _=>by simp)
    have hfil:H2.bC.filter (fun p=>decide (p.1<0))=[]:=List.filter_eq_nil_iff.2 (fun p _=>by simp)
    have htr:du 0 av H2=some av:=by
     unfold du
     rw[hall,hfil]
     simp[av]
    show((eg 0 H2 dc v0).bind fun v=>(du 0 av H2).map fun H=>(v,H))=_
    rw[k4,htr]
    rfl
   ·obtain⟨val,rfl,ρ1,F1,d1,d2,d3⟩:=he
    have hnone:∀b,ρ1 b=none:=by
     intro b
     cases hb:ρ1 b with
     |none=>rfl
     |some l=>have:=d2.gY b l hb;simp[av]at this
    have hno:∀b l,¬Own cO av b l:=fun b l h=>by cases h.2.1
    obtain⟨p1,p2⟩:=hr.same d3.size (fun B hB=>d3.frame B hB (fun b l ho=>absurd ho (hno b l))) d3.out
    have aV:∀B,F1 B→F B∨w.heap.size≤B:=fun B hB=>by
     rcases d3.new B hB with h|h|⟨b,l,ho,_⟩
     ·exact .inl h
     ·exact .inr h
     ·exact absurd ho (hno b l)
    refine⟨val,rfl,ρ,F1,d1.mono (fun _ _=>rfl) (fun _ h=>h) (fun b l h=>by rw[hnone b]at h;cases h),p1.more d3.fO (fun B hB=>?_),p2.more d3.fO aV⟩
    rcases aV B hB with h|h
    ·exact .inl h
    ·exact .inr ⟨d2.fO B hB,fun b l ho e=>by have:=(hr.own b l ho).2;omega⟩
theorem x9(hmix:C.P.follows .mixedOrders=true)(hext:nw C)(hT:∀f F1,T f=some F1→se C.P C.cU f=some F1)(hrec:eP C (ab T m)):wW C (ab T (m+1)):=by
 intro f xs H v H' h ρ F w args hr ha
 simp only[ab]at h
 split at h
 ·cases h
 rename_i F1 hF1
 have hc:=hT f F1 hF1
 unfold se at hc
 split at hc
 ·rename_i k hk
  cases hc
  have hrun:∀{R:Type} (e:Env) (H:ae) (K:mJ→Env→ae→Option R),run (ab T m) (.ext k) e H K ()=ay (iJ k H.bl (e.map (·.2))) (fun v=>K .ret ((0,v)::e) H) ():=fun _ _ _=>rfl
  simp only[hrun,rl]at h
  cases hv:iJ k H.bl xs with
  |none=>rw[hv]at h;simp[ay]at h
  |some v0=>
   obtain⟨y,hy⟩:=pI hv
   rw[hv]at h
   simp only[ay,results1,Ov,PG,dS,get,O8,N6,bc,Oo,OV,cW,Ae,OS,N1,N3]at h
   obtain⟨rfl,rfl⟩:=h
   exact rT (H:={bl:=H.bl,bC:=H.bC,ro:=H.ro}) (hext _ _ hk) hv hr ha
 split at hc
 ·cases hc
 rename_i fn hfn
 split at hc
 ·cases hc
 rename_i body hbody
 replace hc:=dV hc
 obtain⟨hname,hc⟩:=hc
 split at hc
 rotate_left
 ·cases hc
 rename_i b1 rs hb1 hrs
 cases hc
 refine⟨?_,fun n=>?_⟩
 ·unfold callFunc
  have hname':¬fn.name= "runtime.NumGoroutine" :=by simpa using hname
  simp[Sem.run_bind,Sem.run,hfn,hname',hbody]
 ·have go:∀(R:Type) (fin:SV→ae→Option R) (r:R) (Q:Value→World→Prop) (ρ:Map) (H:ae),HR C ρ F H w→fp w F ρ xs args→
        run (ab T m) b1 (ef xs) {bl:=H.bl,bC:=[],ro:=min H.ro H.bl.length} (fun x e H'=>match x with
         | .exit _=>none
         |_=>(results1 e H' rs).bind fun v=>fin v H') ()=some r→
        (∀v0 ρ2 F2 H2 w2 val,HR C ρ2 F2 H2 w2→Ext C ρ F {bl:=H.bl,bC:=[],ro:=min H.ro H.bl.length} w ρ2 F2 H2 w2→VR w2 F2 ρ2 v0 val→fin v0 H2=some r→Q val w2)→
        CallsIn Fence.wide n C.P f args w (fun e w'=>∃val,e=.returned val∧Q val w'):=by
   intro R fin r Q ρ H hr ha h hfin
   refine callsIn_of_wp_marks hfn hbody trivial ?_
   let B:iL:=⟨ρ,F,{bl:=H.bl,bC:=[],ro:=min H.ro H.bl.length},w,w.heap.size⟩
   refine mM hmix hrec body b1 hb1 none n B _ _ _ r (ef xs) B.H _ w (fun l hl=>by cases hl) h (fun x e' H2 a' w' hk hrel=>?_)
    ⟨ρ,F,hr.bl rfl,sW ha,Ext.refl _ _ _ _,by simp;omega,NV _,[],rfl,QP,by simp⟩
   have hgo:((results1 e' H2 rs).bind fun v=>fin v H2)=some r→
    LeavesInM Fence.wide n C.P fn a'.tmps (fun e w'=>∃val,e=.returned val∧Q val w') a'.defers .returning w':=by
    intro hk
    simp only[NS]at hk
    obtain⟨v0,h1,h2⟩:=hk
    obtain⟨ρ2,F2,q1,q2,q3,q4,q5,Ds,q6,q7,q8⟩:=hrel
    refine lx Ds _ _ q6 q7 (fun D hD=>(q8 D hD).2.1) (fun w2 hs ho hh=>?_)
    obtain⟨z1,z2⟩:=q1.other q3 hs ho (fun Bk hB=>hh Bk (fun hD=>by
     obtain⟨g1,g2,g3,g4⟩:=q8 Bk hD
     rcases hB with hB|⟨b,l,ho,e⟩|hB
     ·exact g3 hB
     ·exact g4 b l ho e
     ·have:Bk<w.heap.size:=hB
      have:w.heap.size≤Bk:=g1
      omega))
    have he2:ER w2 F2 ρ2 e' a'.tmps:=fun t=>(q2 t).mono (fun Bk hB=>hh Bk (fun hD=>(q8 Bk hD).2.2.1 hB)) (fun _ h=>h) (Map.le_refl _)
    obtain⟨val,r1,r2⟩:=mQ z1 he2 hrs h1
    exact⟨val,r1,val,rfl,hfin v0 ρ2 F2 H2 w2 val z1 z2 r2 h2⟩
   cases x with
   |normal=>exact hgo hk
   |ret=>exact hgo hk
   |exit id=>cases hk
  exact go _ (fun v H2=>cW true H v H2) (v,H') _ ρ H hr ha h (fun v0 ρ2 F2 H2 w2 val k1 k2 k3 k4=>kR hr k1 k2 k3 k4)
theorem qE{b:Nat}{l:Loc}{q:pz}{st st':LoopState}{pend pend':mJ}{Q:Loop}{p':Option Code}(hr:HR C ρ F H w)(hl:ρ b=some l)(hg:az H b=some (.loop q st pend))(hH:bT H b (.loop q st' pend') 0=some H')
 (hQ:w.heap[l.bq]?=some (.loop Q)) (hp:p'=kQ pend') :
 HR C ρ F H' (w.putObj l.bq (.loop {Q with state:=st',pending:=p'}))∧Ext C ρ F H w ρ F H' (w.putObj l.bq (.loop {Q with state:=st',pending:=p'})):=by
 obtain⟨l4,m4,m5⟩:=hr.live _ _ hg rfl
 rw[hl]at m4;cases m4
 obtain⟨hv,harr,Q2,g1,g2,g3,g4,g5,g6⟩:=id m5
 rw[hQ]at g1;cases g1
 have hlt:l.bq<w.heap.size:=(N8.1 hQ).1
 have hown:Own ρ H b l:=⟨⟨_,hg,rfl⟩,hl,hv⟩
 have hkeep:∀Bk,Bk≠l.bq→(w.putObj l.bq (.loop {Q with state:=st',pending:=p'})).heap[Bk]?=w.heap[Bk]?:=fun Bk hne=>World.putObj_heap_other hne
 have hkk:cK F w (w.putObj l.bq (.loop {Q with state:=st',pending:=p'})):=fun Bk hB=>hkeep Bk (fun e=>(hr.own _ _ hown).1 (e▸hB))
 obtain⟨z1,z2⟩:=hr.set (w':=w.putObj l.bq (.loop {Q with state:=st',pending:=p'})) (l':=l) hH hg rfl hl (by simp) (fun Bk _ h=>hkeep Bk (h hv)) (fun h=>.inl ⟨h,rfl⟩) (.inl rfl)
  (fun _=>by
   rw[ba hl]
   exact⟨hv,harr,_,World.putObj_heap_same hlt,rfl,hp,g4,g5,fun t=>(g6 t).mono hkk (fun _ h=>h) (Map.le_refl _)⟩)
  (fun _ N _ _ hbr=>by
   rw[ba hl]
   obtain⟨_,_,q',b1,b2,b3,b4,b5,b6⟩:=hbr
   rw[hQ]at b1;cases b1
   exact⟨hv,harr,_,World.putObj_heap_same hlt,rfl,hp,b4,b5,fun t=>(b6 t).mono hkk (fun _ h=>h) (Map.le_refl _)⟩)
  (fun _=>⟨_,_,_,rfl⟩)
 rw[ba hl]at z1 z2
 exact⟨z1,z2⟩
theorem xG:∀(ps:List Nat) (xs:List SV) (args:List Value) (e:Env) (tmps:Array Value),ER w F ρ e tmps→xs.length=args.length→(∀t∈ps,t<tmps.size)→
 (∀(j:Nat) c v,xs[j]?=some c→args[j]?=some v→VR w F ρ c v)→ER w F ρ ((ps.zip xs).reverse++e) ((ps.zip args).foldl (fun tmps (p:Nat×Value)=>tmps.setIfInBounds p.1 p.2) tmps)∧((ps.zip args).foldl (fun tmps (p:Nat×Value)=>tmps.setIfInBounds p.1 p.2) tmps).size=tmps.size
 |[],xs,args,e,tmps,he,_,_,_=>by simpa using he
 |p::ps,[],[],e,tmps,he,_,_,_=>by simpa using he
 |p::ps,x::xs,a::args,e,tmps,he,hl,hp,hv=>by
  have he':ER w F ρ ((p,x)::e) (tmps.setIfInBounds p a):=xc (a:={tmps:=tmps,defers:=[]}) he (hp p (by simp)) (hv 0 x a rfl rfl)
  obtain⟨h1,h2⟩:=xG ps xs args ((p,x)::e) (tmps.setIfInBounds p a) he' (by simpa using hl) (fun t ht=>by simpa using hp t (by simp[ht])) (fun j c v hc hv'=>hv (j+1) c v (by simpa using hc) (by simpa using hv'))
  refine⟨?_,by simpa using h2⟩
  simp only[List.zip_cons_cons,QO,NR,List.singleton_append,Q7]
  exact h1
 |p::ps,[],a::args,e,tmps,he,hl,_,_=>by simp at hl
 |p::ps,x::xs,[],e,tmps,he,hl,_,_=>by simp at hl
theorem td{b:Nat}{l:Loc}{q:pz}{st:LoopState}{pend:mJ}(hr:HR C ρ F H w)(hx:Ext C ρ0 F0 H0 w0 ρ F H w)(hl:ρ0 b=some l)(hla:l.arr=false)(hg:az H b=some (.loop q st pend)) :
 ρ b=some l∧∃Q:Loop,w.heap[l.bq]?=some (.loop Q)∧Q.state=st∧Q.pending=kQ pend:=by
 obtain⟨l3,m1,m2⟩:=hx.map b l hl
 have m3:l3=l:=by
  rcases m2 with h|⟨_,h,_⟩
  ·exact h
  ·rw[hla]at h;cases h
 subst m3
 obtain⟨l4,m4,m5⟩:=hr.live _ _ hg rfl
 rw[m1]at m4;cases m4
 obtain⟨hv,harr,Q2,g1,g2,g3,g4,g5,g6⟩:=m5
 exact⟨m1,Q2,g1,g2,g3⟩
theorem rQ{b:Nat}{st':LoopState}{pend':mJ}(h:mL b st' pend' H=some H'):∃q st pend,az H b=some (.loop q st pend)∧bT H b (.loop q st' pend') 0=some H':=by
 unfold mL at h
 split at h
 ·rename_i q st pend hg;exact⟨q,st,pend,hg,h⟩
 ·cases h
theorem Be(hmix:C.P.follows .mixedOrders=true)(hrec:eP C (ab T m)):Aj C (ab T (m+1)):=by
 intro b xs H v H' h ρ F w args l hr ha hl
 simp only[ab]at h
 split at h
 rotate_left
 ·cases h
 rename_i q pend hb
 replace h:=af h
 obtain⟨hlen,h⟩:=h
 have hlen:q.ps.length=xs.length:=by simpa using hlen
 obtain⟨l',hl',hbr⟩:=hr.live b _ hb rfl
 rw[hl]at hl';cases hl'
 obtain⟨hv,harr,Q,g1,g2,g3,g4,⟨g,nt,g5,g6,g7,g8⟩,g9⟩:=hbr
 have hsz:args.size=Q.params.size:=by
  rw[←ha.1,←hlen,←g4,P0]
 refine⟨_,_,_,_,run_yield g1 hsz,fun n=>?_⟩
 refine roundIn_of_wpIn trivial ?_
 let B:iL:=⟨ρ,F,{bl:=H.bl,bC:=[],ro:=min H.ro H.bl.length},w,w.heap.size⟩
 have hroB:∀l',some l.bq=some l'→∃q,B.w.heap[l']?=some (.loop q):=fun l' hl'=>by cases hl';exact⟨Q,g1⟩
 have hz:=xG q.ps xs args.toList q.env Q.tmps g9 (by simp[ha.1]) (fun t ht=>OP (g6 t ht) g5) (fun j c v hc hv=>ha.2 j c v hc (by simpa using hv))
 have hfold:(Q.params.zip args).foldl (fun tmps (t,a)=>tmps.setIfInBounds t a) Q.tmps=(q.ps.zip args.toList).foldl (fun tmps (p:Nat×Value)=>tmps.setIfInBounds p.1 p.2) Q.tmps:=by
  rw[←Array.foldl_toList,Array.toList_zip,g4]
 rw[hfold]
 refine mM hmix hrec Q.assign q.assign g7 (some l.bq) n B _ _ _ (v,H') _ B.H _ w hroB h (fun x e' H2 a' w' hk hrel=>?_)
  ⟨ρ,F,hr.bl rfl,hz.1,Ext.refl _ _ _ _,by simpa[hz.2]using g5,NV _,[],rfl,QP,by simp⟩
 cases x with
 |exit id=>cases hk
 |ret=>cases hk
 |normal=>
  simp only[NS]at hk
  obtain⟨H3,hH3,hk⟩:=hk
  obtain⟨ρ2,F2,q1,q2,q3,q4,q5⟩:=hrel
  unfold lI at hH3
  split at hH3
  rotate_left
  ·cases hH3
  rename_i qq pp hg3
  obtain⟨k1,Q3,k2,k3,k4⟩:=td q1 q3 hl harr hg3
  obtain⟨z1,z2⟩:=qE (p':=Q3.pending) q1 k1 hg3 hH3 k2 k4
  refine⟨_,run_beginRound k2 k3,?_⟩
  refine mM hmix hrec Q.body q.body g8 (some l.bq) n B _ _ _ (v,H') e' H3 a' _ hroB hk (fun x e4 H4 a4 w4 hk4 hrel4=>?_) ⟨ρ2,F2,z1,z2.er q1 q2,q3.trans z2,q4,q5.ext z2.toExt0⟩
  simp only[NS,NP,N3]at hk4
  obtain⟨H5,hH5,H6,ht,hvv,rfl⟩:=hk4
  obtain⟨ρ4,F4,p1,p2,p3,p4,p5⟩:=hrel4
  obtain⟨qq4,st4,pp4,hg4,hset4⟩:=rQ hH5
  obtain⟨y1,Q4,y2,y3,y4⟩:=td p1 p3 hl harr hg4
  have fin:∀jump:Option Code,jump=kQ x→bT H4 b (.loop qq4 (if jump.isNone then .ready else .done) x) 0=some H5→
   ∃v w',(Instr.endRound l.bq jump).run C.P w4=.ok v w'∧∃val,Ending.returned v=.returned val∧cN C ρ F H w (.bool jump.isNone) H6 val w':=by
   intro jump hj hset5
   obtain⟨u1,u2⟩:=qE (p':=jump) p1 y1 hg4 hset5 y2 hj
   refine⟨_,_,run_endRound jump y2,_,rfl,?_⟩
   obtain⟨o1,o2⟩:=mn hr u1 (p3.trans u2) ht
   exact⟨_,_,.bool _,o1,o2⟩
  cases x with
  |normal=>subst hvv;exact fin none rfl hset4
  |exit id=>subst hvv;exact fin (some (.exit id)) rfl hset4
  |ret=>subst hvv;exact fin (some .ret) rfl hset4
theorem pk(hmix:C.P.follows .mixedOrders=true)(hext:nw C)(hT:∀f F1,T f=some F1→se C.P C.cU f=some F1):∀m,eP C (ab T m)
 |0=>⟨fun f xs H v H' h=>by simp[ab]at h,fun f xs H v H' h=>by simp[ab]at h,fun b xs H v H' h=>by simp[ab]at h⟩
 |m+1=>⟨yC hmix hext hT (pk hmix hext hT m),x9 hmix hext hT (pk hmix hext hT m),Be hmix (pk hmix hext hT m)⟩
end
end
section
inductive KI where|code (c:bO)|bq (id:Nat)
noncomputable def sj {R:Type} (rec:Rec) (fin:mJ→Env→ae→Option R):(K:List KI)→mJ→Env→ae→Option R
 |[],x,e,H=>fin x e H
 | .code b::K,.normal,e,H=>run rec b e H (sj rec fin K) ()
 | .code _::K,x,e,H=>sj rec fin K x e H
 | .bq id::K,.exit j,e,H=>bif j==id then sj rec fin K .normal e H else sj rec fin K (.exit j) e H
 | .bq _::K,x,e,H=>sj rec fin K x e H
noncomputable def runK {R:Type} (rec:Rec) (fin:mJ→Env→ae→Option R) (c:bO) (K:List KI) (e:Env) (H:ae) (_:n6 (fin,c,K)):Option R:=run rec c e H (sj rec fin K) ()
noncomputable def gj {R:Type} (rec:Rec) (fin:mJ→Env→ae→Option R) (K:List KI) (x:mJ) (e:Env) (H:ae) (_:n6 (fin,K)):Option R:=sj rec fin K x e H
noncomputable section
variable{R:Type}(rec:Rec)(fin:mJ→Env→ae→Option R)(K:List KI)(e:Env)(H:ae)
theorem nH(c:bO)(k:mJ→Env→ae→Option R):run rec c e H k ()=runK rec k c [] e H ():=Eq.trans rfl rfl
@[go_sem] theorem Gj (t):runK rec fin .skip K e H t=gj rec fin K .normal e H ():=Eq.trans rfl rfl
@[go_sem] theorem Jo (l t):runK rec fin (.ops l) K e H t=bM rec l e H (fun e H=>gj rec fin K .normal e H ()) ():=Eq.trans rfl rfl
@[go_sem] theorem FJ (l t):runK rec fin (.drawn l) K e H t=bw rec l H.bl.length e H (fun e H=>gj rec fin K .normal e H ()) ():=Eq.trans rfl rfl
@[go_sem] theorem ID (a b t):runK rec fin (.seq a b) K e H t=runK rec fin a (.code b::K) e H ():=by
  show run rec a e H _ _=run rec a e H _ _
  congr 1
  funext x e' H'
  cases x<;>rfl
@[go_sem] theorem GQ (c a b t):runK rec fin (.cond c a b) K e H t=mU (ev e c) (fun t=>fork t (runK rec fin a K e H ()) (runK rec fin b K e H ()) ()) ():=Eq.trans rfl rfl
@[go_sem] theorem DC (id a t):runK rec fin (.block id a) K e H t=runK rec fin a (.bq id::K) e H ():=by
  show run rec a e H _ _=run rec a e H _ _
  congr 1
  funext x e' H'
  cases x<;>rfl
@[go_sem] theorem HD (n t):runK rec fin (.ext n) K e H t=ay (iJ n H.bl (e.map (·.2))) (fun v=>gj rec fin K .ret ((0,v)::e) H ()) ():=Eq.trans rfl rfl
@[go_sem] theorem Ho (id t):runK rec fin (.exit id) K e H t=gj rec fin K (.exit id) e H ():=Eq.trans rfl rfl
@[go_sem] theorem JS (t):runK rec fin .ret K e H t=gj rec fin K .ret e H ():=Eq.trans rfl rfl
@[go_sem] theorem Gq (vs t):runK rec fin (.aL vs) K e H t=ay (eC vs e H) (fun s=>gj rec fin K .normal s.1 s.2 ()) ():=Eq.trans rfl rfl
@[go_sem] theorem H9 (d neg x c t):runK rec fin (.Ao d neg x c) K e H t=n5 (uw H (ev e x)) neg (fun b=>runK rec fin c K ((d,.bool b)::e) H ()) ():=Eq.trans rfl rfl
def eT(p:dj)(N:Nat)(H0:ae)(rec:Rec)(a:bO)(s':Env×ae):Option Out:=(eF p N H0 s').bind fun s'=>run rec a s'.1 s'.2 (fun x e H=>some (x,e,H)) ()
@[go_sem] theorem Gv (p a t):runK rec fin (.loop p a) K e H t=ay (eC p.aL e H) (fun s=>ay (iG (eT p s.2.bl.length {bl:=s.2.bl,bC:=[],ro:=s.2.ro} rec a) (s.1,{bl:=s.2.bl,bC:=[],ro:=s.2.ro}))
 (fun o=>gj rec fin K o.1 o.2.1 {bl:=o.2.2.bl,bC:=s.2.bC++o.2.2.bC,ro:=o.2.2.ro} ()) ()) ():=Eq.trans rfl rfl
@[go_sem] theorem Kr (x t):gj rec fin [] x e H t=fin x e H:=Eq.trans rfl rfl
@[go_sem] theorem w9 (b t):gj rec fin (.code b::K) .normal e H t=runK rec fin b K e H ():=Eq.trans rfl rfl
@[go_sem] theorem zZ (b t):gj rec fin (.code b::K) .ret e H t=gj rec fin K .ret e H ():=Eq.trans rfl rfl
@[go_sem] theorem yP (b id t):gj rec fin (.code b::K) (.exit id) e H t=gj rec fin K (.exit id) e H ():=Eq.trans rfl rfl
@[go_sem] theorem xW (b t):gj rec fin (.bq b::K) .normal e H t=gj rec fin K .normal e H ():=Eq.trans rfl rfl
@[go_sem] theorem AJ (b t):gj rec fin (.bq b::K) .ret e H t=gj rec fin K .ret e H ():=Eq.trans rfl rfl
@[go_sem] theorem Ah (b id t):gj rec fin (.bq b::K) (.exit id) e H t=bif id==b then gj rec fin K .normal e H ()else gj rec fin K (.exit id) e H ():=Eq.trans rfl rfl
end
section
variable{R:Type}
@[go_sem] theorem CR (x y:R)(t:n6 (x,y)):fork true x y t=x:=Eq.trans rfl rfl
@[go_sem] theorem BE (x y:R)(t:n6 (x,y)):fork false x y t=y:=Eq.trans rfl rfl
theorem iv{b:Bool}{x y r:R}{t:n6 (x,y)}(h1:b=true→x=r)(h2:b=false→y=r):fork b x y t=r:=by
 cases b
 ·exact h2 rfl
 ·exact h1 rfl
@[go_sem] theorem zq (b w:Bool)(f:Bool→Option R)(t:n6 f):eE (.bool b) w f t=f (b==w):=Eq.trans rfl rfl
@[go_sem] theorem Ax (w:Bool)(f:Bool→Option R)(t:n6 f):eE .gJ w f t=f false:=Eq.trans rfl rfl
@[go_sem] theorem zX (b:Bool)(f:Bool→Option R)(t:n6 f):mU (.bool b) f t=f b:=Eq.trans rfl rfl
@[go_sem] theorem z7 (neg:Bool)(f:Bool→Option R)(t:n6 f):n5 (some false) neg f t=f neg:=Eq.trans rfl rfl
theorem so{neg:Bool}{f:Bool→Option R}{t:n6 f}{r:Option R}(h1:f true=r)(h2:f false=r):n5 (some true) neg f t=r:=by
 unfold n5
 simp[h1,h2]
@[go_sem] theorem AB {A:Type}(v:A)(f:A→Option R)(t:n6 f):ay (some v) f t=f v:=Eq.trans rfl rfl
@[go_sem] theorem Fw {A:Type}(x y:A):(bif true then x else y)=x:=Eq.trans rfl rfl
@[go_sem] theorem CG {A:Type}(x y:A):(bif false then x else y)=y:=Eq.trans rfl rfl
end
@[go_sem] theorem MA (e:Env)(n:Nat):ev e (.t n)=get e n:=Eq.trans rfl rfl
@[go_sem] theorem MS (e:Env)(v:SV):ev e (.c v)=v:=Eq.trans rfl rfl
@[go_sem] theorem Fj (j i:Nat)(v:SV)(e:Env):get ((j,v)::e) i=bif i==j then v else get e i:=Eq.trans rfl rfl
@[go_sem] theorem Bx (e:Env)(v:SV):bB e none v=e:=Eq.trans rfl rfl
@[go_sem] theorem AU (e:Env)(d:Nat)(v:SV):bB e (some d) v=(d,v)::e:=Eq.trans rfl rfl
@[go_sem] theorem CO (x:SV)(r:List SV):ef (x::r)=(0,x)::ef.go 1 r:=Eq.trans rfl rfl
@[go_sem] theorem F7:ef []=[]:=Eq.trans rfl rfl
@[go_sem] theorem Gr (i:Nat)(x:SV)(r:List SV):ef.go i (x::r)=(i,x)::ef.go (i+1) r:=Eq.trans rfl rfl
@[go_sem] theorem IT (i:Nat):ef.go i []=[]:=Eq.trans rfl rfl
section
variable{R:Type}(rec:Rec)(e:Env)(H:ae)(k:Env→ae→Option R)
@[go_sem] theorem Jw (t):bM rec [] e H k t=k e H:=Eq.trans rfl rfl
@[go_sem] theorem Gt (d:Option Nat)(op:jH)(os:List ak)(t):bM rec (⟨d,op,none⟩::os) e H k t=ay (ai rec e H op) (fun r=>bM rec os (bB e d r.1) r.2 k ()) ():=Eq.trans rfl rfl
@[go_sem] theorem D7 (d:Option Nat)(x:Nat)(w:Bool)(op:jH)(os:List ak)(t):bM rec (⟨d,op,some (x,w)⟩::os) e H k t=eE (get e x) w (fun b=>fork b (ay (ai rec e H op) (fun r=>bM rec os (bB e d r.1) r.2 k ()) ())
 (bM rec os (bB e d .gJ) H k ()) ()) ():=Eq.trans rfl rfl
@[go_sem] theorem JW (N t):bw rec [] N e H k t=k e H:=Eq.trans rfl rfl
@[go_sem] theorem G1 (d:Option Nat)(op:jH)(q:aU)(os:List (ak×aU))(N t):bw rec ((⟨d,op,none⟩,q)::os) N e H k t=ay (bR rec N q e H op) (fun r=>bw rec os (eQ q N r.2) (bB e d r.1) r.2 k ()) ():=Eq.trans rfl rfl
@[go_sem] theorem FP (d:Option Nat)(x:Nat)(w:Bool)(op:jH)(q:aU)(os:List (ak×aU))(N t):bw rec ((⟨d,op,some (x,w)⟩,q)::os) N e H k t=
 eE (get e x) w (fun b=>fork b (ay (bR rec N q e H op) (fun r=>bw rec os (eQ q N r.2) (bB e d r.1) r.2 k ()) ())
  (bif gP q then bw rec os (eQ q N H) (bB e d .gJ) H k ()else none) ()) ():=Eq.trans rfl rfl
@[go_sem] theorem Hg (h n o N):eQ ⟨.pure,h,n,o⟩ N H=N:=Eq.trans rfl rfl
@[go_sem] theorem JU (h n o N):eQ ⟨.kn,h,n,o⟩ N H=N:=Eq.trans rfl rfl
@[go_sem] theorem I5 (h n o N):eQ ⟨.fC,h,n,o⟩ N H=H.bl.length:=Eq.trans rfl rfl
@[go_sem] theorem GO (h n o):gP ⟨.pure,h,n,o⟩=true:=Eq.trans rfl rfl
@[go_sem] theorem I7 (h o):gP ⟨.kn,h,0,o⟩=true:=Eq.trans rfl rfl
@[go_sem] theorem Hv (op N h n o):bR rec N ⟨.pure,h,n,o⟩ e H op=ai rec e H op:=Eq.trans rfl rfl
theorem si(N:Nat)(H:ae):∀d,eg N H d=eg N ⟨H.bl,[],0⟩ d
 |0=>by funext v;rfl
 |d+1=>by
  have ih:=si N H d
  funext v
  simp only[eg]
  rw[ih]
  rfl
theorem vE(N o f xs):bR rec N ⟨.kn,[],0,o⟩ e H (.l7 f xs)=ai rec e H (.l7 f xs):=by
 simp only[bR,ai,ql,cy,List.foldl_nil]
 rw[si 0 {bl:=H.bl,bC:=[],ro:=H.bl.length},si 0 H]
 cases bc ((xs.map (ev e)).map (eg 0 ⟨H.bl,[],0⟩ dc))with
 |none=>rfl
 |some vs=>
  simp only[OV]
  cases rec (.fn f) vs ⟨[],[],0⟩with
  |none=>rfl
  |some r=>
   simp only[OV]
   cases yk r.1<;>simp
attribute [go_sem] vE
def rO:jH→Bool
 | .load .. | .aH .. | .dJ .. | .dI .. | .len .. | .iU .. | .cQ .. | .isNil .. =>true
 |_=>false
theorem vu{op:jH}(h:rO op=true):∃g:List aj→Option SV,∀H:ae,ai rec e H op=(g H.bl).map (·,H):=by
 cases op<;>try (exfalso;simp only[rO,Pc]at h;done)
 case load ag n a=>exact⟨fun bl=>cw ag n ⟨bl,[],0⟩ (ev e a),fun H=>by
  simp only[ai,bu];congr 1⟩
 case isNil k neg x=>exact⟨fun bl=>(eA ⟨bl,[],0⟩ k (ev e x)).map fun b=>.bool (neg ^^ b),fun H=>by
  simp only[ai,bu]
  have:eA H k (ev e x)=eA ⟨H.bl,[],0⟩ k (ev e x):=rfl
  rw[this];cases eA ⟨H.bl,[],0⟩ k (ev e x)<;>rfl⟩
 case cQ x=>exact⟨fun bl=>bif cur ⟨bl,[],0⟩ (ev e x)then jw (ev e x)else none,fun H=>by
  simp only[ai,bu]
  have:cur H (ev e x)=cur ⟨H.bl,[],0⟩ (ev e x):=rfl
  rw[this];cases cur ⟨H.bl,[],0⟩ (ev e x)<;>rfl⟩
 case iU bg x lo hi mx=>exact⟨fun bl=>bif de ⟨bl,[],0⟩ bg (ev e x)then(nC (ev e x) (lo.map (ev e)) (hi.map (ev e)) (mx.map (ev e))).orElse fun _=>hU ⟨bl,[],0⟩ (ev e x) (lo.map (ev e)) (hi.map (ev e)) (mx.map (ev e))else none,fun H=>by
  simp only[ai,bu]
  have:de H bg (ev e x)=de ⟨H.bl,[],0⟩ bg (ev e x):=rfl
  rw[this];cases de ⟨H.bl,[],0⟩ bg (ev e x)<;>rfl⟩
 case aH off x=>exact⟨fun bl=>bif cur ⟨bl,[],0⟩ (ev e x)then eB off (ev e x)else none,fun H=>by
  simp only[ai,bu]
  have:cur H (ev e x)=cur ⟨H.bl,[],0⟩ (ev e x):=rfl
  rw[this];cases cur ⟨H.bl,[],0⟩ (ev e x)<;>rfl⟩
 case dJ bg x ix=>exact⟨fun bl=>bif de ⟨bl,[],0⟩ bg (ev e x)then gh (ev e x) (ev e ix)else none,fun H=>by
  simp only[ai,bu]
  have:de H bg (ev e x)=de ⟨H.bl,[],0⟩ bg (ev e x):=rfl
  rw[this];cases de ⟨H.bl,[],0⟩ bg (ev e x)<;>rfl⟩
 case dI len bg x ix=>exact⟨fun bl=>bif cur ⟨bl,[],0⟩ (ev e x)then(gW len (ev e ix)).bind fun i=>eB (i*bg) (ev e x)else none,fun H=>by
  simp only[ai,bu]
  have:cur H (ev e x)=cur ⟨H.bl,[],0⟩ (ev e x):=rfl
  rw[this];cases cur ⟨H.bl,[],0⟩ (ev e x)with
  |true=>simp only[N6];cases gW len (ev e ix)<;>rfl
  |false=>rfl⟩
 case len x=>exact⟨fun bl=>bif cur ⟨bl,[],0⟩ (ev e x)then(mv (ev e x)).map fun(n:Nat)=>.int .i64 n else none,fun H=>by
  simp only[ai,bu]
  have:cur H (ev e x)=cur ⟨H.bl,[],0⟩ (ev e x):=rfl
  rw[this];cases cur ⟨H.bl,[],0⟩ (ev e x)with
  |true=>simp only[N6];cases mv (ev e x)<;>rfl
  |false=>rfl⟩
theorem kT{op:jH}(h:rO op=true)(N o):bR rec N ⟨.kn,[],0,o⟩ e H op=ai rec e H op:=by
 obtain⟨g,hg⟩:=vu rec e h
 simp only[bR,hg,cy,List.foldl_nil]
 cases hq:g H.bl with
 |none=>rfl
 |some v=>simp
@[go_sem] theorem G0 (N o ag n a):bR rec N ⟨.kn,[],0,o⟩ e H (.load ag n a)=ai rec e H (.load ag n a):=kT rec e H (by rfl) N o
@[go_sem] theorem Fq (N o n a):bR rec N ⟨.kn,[],0,o⟩ e H (.aH n a)=ai rec e H (.aH n a):=kT rec e H (by rfl) N o
@[go_sem] theorem Cx (N o n a b):bR rec N ⟨.kn,[],0,o⟩ e H (.dJ n a b)=ai rec e H (.dJ n a b):=kT rec e H (by rfl) N o
@[go_sem] theorem C9 (N o n l a b):bR rec N ⟨.kn,[],0,o⟩ e H (.dI l n a b)=ai rec e H (.dI l n a b):=kT rec e H (by rfl) N o
@[go_sem] theorem C3 (N o a):bR rec N ⟨.kn,[],0,o⟩ e H (.cQ a)=ai rec e H (.cQ a):=kT rec e H (by rfl) N o
@[go_sem] theorem Gp (N h n o f xs):bR rec N ⟨.kn,h,n,o⟩ e H (.call f xs)=ay (jP rec (ev e f) (xs.map (ev e)) {bl:=cy N h H.bl,bC:=[],ro:=H.bl.length}) (fun r=>
 bif r.2.bl.length==H.bl.length+n&&r.2.bC.isEmpty then some (r.1,{bl:=H.bl++r.2.bl.drop H.bl.length,bC:=H.bC,ro:=H.ro})else none) ():=Eq.trans rfl (by cases hq:jP rec (ev e f) (xs.map (ev e)) {bl:=cy N h H.bl,bC:=[],ro:=H.bl.length}<;>simp[ay,bR,ai,hq])
@[go_sem] theorem Jq (op N h n o):bR rec N ⟨.fC,h,n,o⟩ e H op=ay (ai rec e H op) (fun r=>bif decide (H.bl.length≤r.2.bl.length)then some r else none) ():=by
  show(ai rec e H op).bind _=_
  cases ai rec e H op<;>rfl
end
end
end Go.Sh
