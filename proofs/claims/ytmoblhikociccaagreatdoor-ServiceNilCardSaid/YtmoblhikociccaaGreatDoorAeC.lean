import Derived.Test.YtmoblhikociccaaGreatDoorAeB
import Derived.Lib.Bytealg
import Derived.Laws.AppendOwn
import Derived.Laws.Entries
import Derived.ChangeFn
/- The evaluator and its simulation, part 3. -/
/- Temporaries behind a set of operations that are done. -/
namespace Go.Ae
open Go

def writes (ops : Array Oper) (i : Nat) (t : Tmp) : Bool := match ops[i]? with
  | some o => o.dst == some t
  | none => false

/-- the last of the operations done that writes a temporary -/
def lastW (ops : Array Oper) (D : Nat → Bool) (t : Tmp) : Nat → Option Nat
  | 0 => none
  | n + 1 => if D n && writes ops n t then some n else lastW ops D t n

theorem lastW_congr {ops : Array Oper} {D D' : Nat → Bool} {t : Tmp} : ∀ (n : Nat), (∀ i, i < n → writes ops i t = true → D i = D' i) → lastW ops D t n = lastW ops D' t n
  | 0, _ => rfl
  | n + 1, h => by
    simp only [lastW]
    rw [lastW_congr n fun i hi hw => h i (by omega) hw]
    cases hw : writes ops n t with
    | false => simp
    | true => rw [h n (by omega) hw]

theorem lastW_top {ops : Array Oper} {D : Nat → Bool} {t : Tmp} {j : Nat} : ∀ (n : Nat), j < n → D j = true → writes ops j t = true → (∀ i, i < n → D i = true → writes ops i t = true → i ≤ j) → lastW ops D t n = some j
  | 0, hj, _, _, _ => by omega
  | n + 1, hj, hd, hw, h => by
    simp only [lastW]
    by_cases hjn : j = n
    · subst hjn; rw [hd, hw]; rfl
    · have : (D n && writes ops n t) = false := by
        cases hD : D n with
        | false => rfl
        | true =>
          cases hW : writes ops n t with
          | false => rfl
          | true => have := h n (by omega) hD hW; omega
      rw [this]
      exact lastW_top n (by omega) hd hw fun i hi => h i (by omega)

/-- the value of a temporary behind the operations done -/
noncomputable def cur (t0 : Tm) (ops : Array Oper) (res : Nat → AV) (D : Nat → Bool) (t : Tmp) : AV := match lastW ops D t ops.size with
  | some i => res i
  | none => Tm.get t0 t

def setD (D : Nat → Bool) (j : Nat) : Nat → Bool := fun i => if i = j then true else D i

theorem cur_other {t0 : Tm} {ops : Array Oper} {res : Nat → AV} {D : Nat → Bool} {j : Nat} {t : Tmp} (h : writes ops j t = false) : cur t0 ops res (setD D j) t = cur t0 ops res D t := by
  unfold cur
  rw [lastW_congr (D' := D)]
  intro i _ hw
  unfold setD
  split
  · rename_i he; subst he; rw [h] at hw; cases hw
  · rfl

theorem cur_same {t0 : Tm} {ops : Array Oper} {res : Nat → AV} {D : Nat → Bool} {j : Nat} {t : Tmp} (hj : j < ops.size) (hw : writes ops j t = true) (h : ∀ i, D i = true → writes ops i t = true → i ≤ j) : cur t0 ops res (setD D j) t = res j := by
  unfold cur
  rw [lastW_top (j := j) ops.size hj (by simp [setD]) hw]
  intro i _ hd hwi
  unfold setD at hd
  split at hd
  · omega
  · exact h i hd hwi

/-- the temporaries behind one operation more -/
theorem cur_put {t0 tm : Tm} {ops : Array Oper} {res : Nat → AV} {D : Nat → Bool} {j : Nat} {o : Oper} (ho : ops[j]? = some o) (hc : ∀ t, Tm.get tm t = cur t0 ops res D t) (h : ∀ t i, o.dst = some t → D i = true → writes ops i t = true → i ≤ j) :
    ∀ t, Tm.get (put tm o.dst (res j)) t = cur t0 ops res (setD D j) t := by
  intro t
  have hj : j < ops.size := (Array.getElem?_eq_some_iff.1 ho).1
  cases hd : o.dst with
  | none =>
    rw [cur_other (by simp [writes, ho, hd])]
    exact hc t
  | some d =>
    by_cases ht : t = d
    · subst ht
      rw [cur_same hj (by simp [writes, ho, hd]) fun i hi hw => h t i hd hi hw]
      simp only [put, Ae.upd, Tm.get]
      rw [T.get_set, if_pos rfl]
    · rw [cur_other (by simp [writes, ho, hd]; exact fun he => ht he.symm)]
      simp only [put, Ae.upd, Tm.get]
      rw [T.get_set, if_neg ht]
      exact hc t

/-- what lies before an operation -/
def befD (ops : Array Oper) (j : Nat) : Nat → Bool := fun i => ((Region.before ops).getD j 0).testBit i

theorem tempOk_spec {ops : Array Oper} (h : tempOk ops (Region.before ops) = true) {j i : Nat} {o : Oper} {t : Tmp} (ho : ops[j]? = some o) (ht : t ∈ namesOf ops o) (hw : writes ops i t = true) (hij : i ≠ j) :
    (i < j → befD ops j i = true) ∧ (j < i → befD ops i j = true) := by
  have hj : j < ops.size := (Array.getElem?_eq_some_iff.1 ho).1
  unfold writes at hw
  split at hw
  · rename_i o' ho'
    have hi : i < ops.size := (Array.getElem?_eq_some_iff.1 ho').1
    unfold tempOk at h
    rw [List.all_eq_true] at h
    have h1 := h j (List.mem_range.2 hj)
    rw [ho] at h1
    simp only [List.all_eq_true] at h1
    have h2 := h1 t ht i (List.mem_range.2 hi)
    rw [ho'] at h2
    simp only [Bool.or_eq_true, bne_iff_ne, ne_eq, beq_iff_eq] at h2 hw
    rcases h2 with (h2 | h2) | h2
    · exact absurd hw h2
    · exact absurd h2 hij
    · constructor
      · intro hlt
        have e1 : max i j = j := by omega
        have e2 : min i j = i := by omega
        rw [e1, e2] at h2; exact h2
      · intro hlt
        have e1 : max i j = i := by omega
        have e2 : min i j = j := by omega
        rw [e1, e2] at h2; exact h2
  · cases hw

/-- what an operation names is what lies before it that has written it -/
theorem cur_names {t0 : Tm} {ops : Array Oper} {res : Nat → AV} {D : Nat → Bool} (hT : tempOk ops (Region.before ops) = true) {j : Nat} {o : Oper} (ho : ops[j]? = some o) (hn : D j = false) (hb : ∀ i, befD ops j i = true → D i = true)
    (hc : ∀ a i, D a = true → befD ops a i = true → D i = true) {t : Tmp} (ht : t ∈ namesOf ops o) : cur t0 ops res D t = cur t0 ops res (befD ops j) t := by
  unfold cur
  rw [lastW_congr (D' := befD ops j)]
  intro i _ hw
  by_cases hij : i = j
  · subst hij
    rw [hn]
    cases hbb : befD ops i i with
    | false => rfl
    | true => have := hb i hbb; rw [hn] at this; cases this
  · obtain ⟨h1, h2⟩ := tempOk_spec hT ho ht hw hij
    rcases Nat.lt_or_ge i j with hlt | hge
    · rw [h1 hlt, hb i (h1 hlt)]
    · have hgt : j < i := by omega
      have hji := h2 hgt
      have hDi : D i = false := by
        cases hD : D i with
        | false => rfl
        | true => have := hc i j hD hji; rw [hn] at this; cases this
      rw [hDi]
      cases hbb : befD ops j i with
      | false => rfl
      | true => have := hb i hbb; rw [hDi] at this; cases this

theorem names_writers {ops : Array Oper} {D : Nat → Bool} (hT : tempOk ops (Region.before ops) = true) {j : Nat} {o : Oper} (ho : ops[j]? = some o) (hn : D j = false) (hc : ∀ a i, D a = true → befD ops a i = true → D i = true) :
    ∀ t i, o.dst = some t → D i = true → writes ops i t = true → i ≤ j := by
  intro t i hd hi hw
  rcases Nat.lt_or_ge j i with hlt | hge
  · have ht : t ∈ namesOf ops o := by simp [namesOf, hd]
    obtain ⟨_, h2⟩ := tempOk_spec hT ho ht hw (by omega)
    have := hc i j hi (h2 hlt)
    rw [hn] at this; cases this
  · exact hge

end Go.Ae

/- The evaluator's trace through a region that draws. -/
namespace Go.Ae
open Go

def Calm : OpRes → Prop
  | .val _ | .rd _ | .al _ _ | .bad => True
  | _ => False

theorem Calm.ofVal (o : Option AV) : Calm (.ofVal o) := by cases o <;> trivial
theorem Calm.bif {c : Bool} {a b : OpRes} (h : Calm a) (h' : Calm b) : Calm (bif c then a else b) := by cases c <;> assumption

theorem calm_conv (P : Program) (s d : TypeId) (x : AV) : Calm (hConv P s d x) := by
  cases x <;> simp only [hConv] <;> (repeat' split) <;> first | trivial | exact Calm.ofVal _ | exact Calm.bif trivial trivial

theorem calm_slice (P : Program) (t : TypeId) (x : AV) (lo hi mx : Option AV) : Calm (hSliceO P t x lo hi mx) := by
  cases x <;> simp only [hSliceO] <;> try exact Calm.ofVal _
  rename_i a
  cases a with
  | none => exact Calm.ofVal _
  | some p =>
    obtain ⟨b, off⟩ := p
    simp only
    unfold hSliceArr
    split
    · exact Calm.bif (by split <;> trivial) trivial
    · trivial

theorem calm_len (x : AV) : Calm (hLen x) := by
  unfold hLen
  split <;> first | trivial | (split <;> trivial)

theorem calm_builtin {P : Program} {A : AW} {c : Call} {b : Builtin} {args : List AV} (hc : c.callee = .builtin b) (h : isEff (.call c) = false) : Calm (hBuiltin P A b c.argTypes args) ∧ ∀ A', hBuiltin P A b c.argTypes args = hBuiltin P A' b c.argTypes args := by
  obtain ⟨cal, as, ts⟩ := c
  simp only at hc
  subst hc
  simp only
  unfold hBuiltin
  cases b <;> simp only [isEff, reduceCtorEq] at h <;> (refine ⟨?_, fun A' => rfl⟩) <;> (repeat' split) <;> first | trivial | exact Calm.ofVal _ | exact calm_len _ | exact Calm.bif (calm_len _) trivial | exact Calm.bif trivial trivial | simp_all | skip

theorem calm_buildSlice (P : Program) (t : TypeId) (n : Nat) (ps : List (Nat × AV)) : Calm (hBuildSlice P t n ps) := by
  unfold hBuildSlice
  split
  · refine Calm.bif trivial ?_
    split
    · split <;> trivial
    · trivial
  · trivial
theorem calm_makeSlice (P : Program) (t : TypeId) (l c : AV) : Calm (hMakeSlice P t l c) := by
  unfold hMakeSlice
  split
  · split
    · split
      · refine Calm.bif ?_ trivial
        split <;> trivial
      · trivial
    · trivial
  · trivial
theorem calm_makeMap (r : Option AV) : Calm (hMakeMap r) := by
  unfold hMakeMap; split <;> trivial

theorem opRes_calm {P : Program} {t : Tm} {A : AW} {op : Op} (h : isEff op = false) : Calm (opRes P t A op) ∧ ∀ A', opRes P t A op = opRes P t A' op := by
  cases op
  case call c =>
    obtain ⟨cal, as, ts⟩ := c
    cases cal with
    | value f => cases h
    | invoke r n => cases h
    | builtin b => exact calm_builtin (c := ⟨.builtin b, as, ts⟩) rfl h
  all_goals first
    | (cases h; done)
    | exact ⟨Calm.ofVal _, fun _ => rfl⟩
    | exact ⟨trivial, fun _ => rfl⟩
    | exact ⟨calm_slice .., fun _ => rfl⟩
    | exact ⟨calm_buildSlice .., fun _ => rfl⟩
    | exact ⟨calm_makeSlice .., fun _ => rfl⟩
    | exact ⟨calm_makeMap .., fun _ => rfl⟩
    | exact ⟨Calm.bif (calm_conv ..) trivial, fun _ => rfl⟩
    | (refine ⟨?_, fun _ => rfl⟩; simp only [opRes]; unfold hAlloc; split <;> trivial)
    | (refine ⟨?_, fun _ => rfl⟩; simp only [opRes]; unfold hBox; split <;> trivial)
    | (refine ⟨?_, fun _ => rfl⟩; simp only [opRes]; unfold hLoad; split <;> trivial)
    | (refine ⟨?_, fun _ => rfl⟩; simp only [opRes]; unfold hLookup; split <;> trivial)

end Go.Ae

/- The evaluator's trace through a region that draws: what it is, and that a run gives one. -/
namespace Go.Ae
open Go

/-- a round of a loop over a function -/
noncomputable def roundF (l : Nat) (r : ALoop) (args : List AV) : AF :=
  ⟨⟨r.fn, r.n, false, some l⟩, (r.params.toList.zip args).foldl (fun t pa => upd t pa.1 pa.2) r.tmps, [.code r.assign, .beginRound, .code r.body], ⟨[], .none, []⟩, .run⟩

section
variable (P : Program) (pr : Prims) (ops : Array Oper) (base : Nat)

/-- what an act has come to, of fuel less than n -/
inductive ActA (n : Nat) (A : AW) : OpRes → AV → AW → Prop
  | val (v : AV) : ActA n A (.val v) v A
  | rd {q : Rq} {v : AV} (h : evalRq P A q = some v) : ActA n A (.rd q) v A
  | ef (v : AV) (A' : AW) : ActA n A (.ef v A') v A'
  | prim {f : FuncId} {args : List AV} {v : AV} {A' : AW} (h0 : pr f args A = some (v, A')) : ActA n A (.call (.fn f args)) v A'
  | ext {f : FuncId} {fn : Func} {e : Ext} {args : List AV} {v : AV} {A' : AW} (h0 : pr f args A = none) (h1 : P.funcs[f]? = some fn) (h2 : fn.body = none) (h3 : extTable.lookup fn.name = some e)
      (h4 : extCall P e fn.resultTypes args A = some (v, A')) : ActA n A (.call (.fn f args)) v A'
  | call {f : FuncId} {fn : Func} {c : Code} {args : List AV} {m : Nat} {v : AV} {tk : Bool} {A' : AW} (h0 : pr f args A = none) (h1 : P.funcs[f]? = some fn) (h2 : fn.body = some c)
      (h3 : Nat.ble args.length fn.ntmps = true) (hm : m < n) (hr : run P pr m (enterC f fn.ntmps c args false .none) A = some (.ret v tk, A')) : ActA n A (.call (.fn f args)) v A'
  | yield {l : Nat} {args : List AV} {r : ALoop} {m : Nat} {v : AV} {tk : Bool} {A' : AW} (h1 : A.get l = some (.loop r))
      (h2 : (Nat.beq args.length r.params.size && r.params.toList.all (fun p => Nat.blt p r.n)) = true) (hm : m < n) (hr : run P pr m (roundF l r args) A = some (.ret v tk, A')) : ActA n A (.call (.yield l args)) v A'

theorem ActA.mono {n n' : Nat} (hn : n ≤ n') {A : AW} {r : OpRes} {v : AV} {A' : AW} (h : ActA P pr n A r v A') : ActA P pr n' A r v A' := by
  cases h with
  | val => exact .val _
  | rd h => exact .rd h
  | ef => exact .ef _ _
  | prim h0 => exact .prim h0
  | ext h0 h1 h2 h3 h4 => exact .ext h0 h1 h2 h3 h4
  | call h0 h1 h2 h3 hm hr => exact .call h0 h1 h2 h3 (by omega) hr
  | yield h1 h2 hm hr => exact .yield h1 h2 (by omega) hr

/-- what one operation has come to -/
inductive Ent (n : Nat) (res : Nat → AV) (alo : Nat → Option AObj) (i : Nat) (o : Oper) (t : Tm) (A : AW) (h : List AW) : AW → Prop
  | skip (hw : wantedA ops t o.guard = some false) (hr : res i = .undef) (ha : alo i = none) : Ent n res alo i o t A h A
  | val (hf : isEff o.op = false) (hw : wantedA ops t o.guard = some true) (hv : opRes P t A o.op = .val (res i)) (ha : alo i = none) : Ent n res alo i o t A h A
  | rd {q : Rq} (hf : isEff o.op = false) (hw : wantedA ops t o.guard = some true) (hq : opRes P t A o.op = .rd q) (hg : agree P q (res i) (h.take (h.length - ahead ops i)) = true) (ha : alo i = none) : Ent n res alo i o t A h A
  | al {ob : AObj} {v : Nat → AV} (hf : isEff o.op = false) (hw : wantedA ops t o.guard = some true) (hq : opRes P t A o.op = .al ob v) (hr : res i = v (base + i)) (ha : alo i = some ob) :
      Ent n res alo i o t A h (A.set (base + i) (some ob))
  | act {A' : AW} (hf : isEff o.op = true) (hw : wantedA ops t o.guard = some true) (hq : ActA P pr n A (opRes P t A o.op) (res i) A') (ha : alo i = none) : Ent n res alo i o t A h A'

/-- a trace -/
inductive Tr (hn n : Nat) (res : Nat → AV) (alo : Nat → Option AObj) : List (Nat × Oper) → Tm → AW → List AW → Tm → AW → Prop
  | nil (t : Tm) (A : AW) (h : List AW) : Tr hn n res alo [] t A h t A
  | cons {i : Nat} {o : Oper} {rest : List (Nat × Oper)} {t tE : Tm} {A A' AE : AW} {h : List AW} (hd : dstOk hn o.dst = true) (he : Ent P pr ops base n res alo i o t A h A')
      (ht : Tr hn n res alo rest (put t o.dst (res i)) A' (if isEff o.op then A' :: h else h) tE AE) : Tr hn n res alo ((i, o) :: rest) t A h tE AE
end

section
variable {P : Program} {pr : Prims} {ops : Array Oper} {base : Nat}

theorem Ent.mono {n n' : Nat} (hn : n ≤ n') {res : Nat → AV} {alo : Nat → Option AObj} {i : Nat} {o : Oper} {t : Tm} {A A' : AW} {h : List AW} (e : Ent P pr ops base n res alo i o t A h A') : Ent P pr ops base n' res alo i o t A h A' := by
  cases e with
  | skip a b c => exact .skip a b c
  | val hf a b c => exact .val hf a b c
  | rd hf a b c d => exact .rd hf a b c d
  | al a b c d e => exact .al a b c d e
  | act a b c d => exact .act a b (c.mono _ _ hn) d

theorem Ent.congr {n : Nat} {res res' : Nat → AV} {alo alo' : Nat → Option AObj} {i : Nat} {o : Oper} {t : Tm} {A A' : AW} {h : List AW} (hr : res i = res' i) (ha : alo i = alo' i) (e : Ent P pr ops base n res alo i o t A h A') : Ent P pr ops base n res' alo' i o t A h A' := by
  cases e with
  | skip a b c => exact .skip a (hr ▸ b) (ha ▸ c)
  | val hf a b c => exact .val hf a (hr ▸ b) (ha ▸ c)
  | rd hf a b c d => exact .rd hf a b (hr ▸ c) (ha ▸ d)
  | al a b c d e => exact .al a b c (hr ▸ d) (ha ▸ e)
  | act a b c d => exact .act a b (hr ▸ c) (ha ▸ d)

theorem Tr.mono {hn n n' : Nat} (hm : n ≤ n') {res : Nat → AV} {alo : Nat → Option AObj} {l : List (Nat × Oper)} {t tE : Tm} {A AE : AW} {h : List AW} (e : Tr P pr ops base hn n res alo l t A h tE AE) : Tr P pr ops base hn n' res alo l t A h tE AE := by
  induction e with
  | nil => exact .nil ..
  | cons hd he _ ih => exact .cons hd (he.mono hm) ih

theorem Tr.congr {hn n : Nat} {res res' : Nat → AV} {alo alo' : Nat → Option AObj} {l : List (Nat × Oper)} {t tE : Tm} {A AE : AW} {h : List AW} (e : Tr P pr ops base hn n res alo l t A h tE AE) (hr : ∀ p ∈ l, res p.1 = res' p.1 ∧ alo p.1 = alo' p.1) : Tr P pr ops base hn n res' alo' l t A h tE AE := by
  induction e with
  | nil => exact .nil ..
  | cons hd he _ ih =>
    obtain ⟨h1, h2⟩ := hr _ (List.mem_cons_self ..)
    refine .cons hd (he.congr h1 h2) ?_
    rw [← h1]
    exact ih fun p hp => hr p (List.mem_cons_of_mem _ hp)

theorem histBase_cons (A a : AW) (l : List AW) : histBase (A :: a :: l) = histBase (a :: l) := rfl

theorem run_trace {hd : Hd} {k : List AItem} {ds : List ADef} {rc : ARcv} {out : Fin × AW} : ∀ (l : List (Nat × Oper)), (l.map (·.1)).Nodup → ∀ (n : Nat) (tm : Tm) (A : AW) (h : List AW), h ≠ [] → histBase h = base →
    run P pr n ⟨hd, tm, .inReg ops l :: k, ⟨ds, rc, h⟩, .run⟩ A = some out →
    ∃ res alo tE AE m, m < n ∧ Tr P pr ops base hd.n n res alo l tm A h tE AE ∧ run P pr m ⟨hd, tE, k, ⟨ds, rc, []⟩, .run⟩ AE = some out := by
  intro l
  induction l with
  | nil =>
    intro _ n tm A h _ _ hr
    cases n with
    | zero => cases hr
    | succ n => exact ⟨fun _ => .undef, fun _ => none, tm, A, n, by omega, .nil .., hr⟩
  | cons p rest ih =>
    obtain ⟨i, o⟩ := p
    intro hnd n tm A h hh hb hr
    cases n with
    | zero => cases hr
    | succ n =>
    obtain ⟨hni, hnd'⟩ := List.nodup_cons.1 hnd
    -- one entry, and the rest
    have goOn : ∀ {v : AV} {A' : AW} {n' : Nat} {oa : Option AObj}, n' < n + 1 → dstOk hd.n o.dst = true → (∀ (res : Nat → AV) (alo : Nat → Option AObj), res i = v → alo i = oa → Ent P pr ops base (n + 1) res alo i o tm A h A') →
        run P pr n' ⟨hd, put tm o.dst v, .inReg ops rest :: k, ⟨ds, rc, if isEff o.op then A' :: h else h⟩, .run⟩ A' = some out →
        ∃ res alo tE AE m, m < n + 1 ∧ Tr P pr ops base hd.n (n + 1) res alo ((i, o) :: rest) tm A h tE AE ∧ run P pr m ⟨hd, tE, k, ⟨ds, rc, []⟩, .run⟩ AE = some out := by
      intro v A' n' oa hn' hdst he hr
      obtain ⟨res, alo, tE, AE, m, h1, h2, h3⟩ := ih hnd' n' _ A' _ (by split <;> simp [hh]) (by
        split
        · cases h with
          | nil => exact absurd rfl hh
          | cons a l => rw [histBase_cons]; exact hb
        · exact hb) hr
      refine ⟨fun x => if x = i then v else res x, fun x => if x = i then oa else alo x, tE, AE, m, by omega, .cons hdst (he _ _ (by simp) (by simp)) ?_, h3⟩
      simp only [if_true]
      refine (h2.mono (by omega)).congr fun p hp => ?_
      have : p.1 ≠ i := fun he => hni (by rw [← he]; exact List.mem_map_of_mem (f := (·.1)) hp)
      simp [this]
    obtain ⟨a, hl, rfl⟩ : ∃ a hl, h = a :: hl := by cases h with
      | nil => exact absurd rfl hh
      | cons a hl => exact ⟨a, hl, rfl⟩
    have hact : ∀ A', (⟨ds, rc, a :: hl⟩ : St).act o.op A' = ⟨ds, rc, if isEff o.op then A' :: a :: hl else a :: hl⟩ := by
      intro A'
      simp only [St.act]
      cases isEff o.op <;> rfl
    rw [run_succ] at hr
    change runK (run P pr n) (stepOp P pr hd tm ops i o rest k ⟨ds, rc, a :: hl⟩ A) = some out at hr
    unfold stepOp at hr
    cases hdst : dstOk hd.n o.dst with
    | false => rw [hdst] at hr; cases hr
    | true =>
    rw [hdst] at hr
    simp only [cond_true] at hr
    split at hr
    · rename_i hw
      cases hop : opRes P tm A o.op with
      | bad => rw [hop] at hr; cases hr
      | val v =>
        rw [hop] at hr
        simp only [actA, behind, force_eq, hact, runK] at hr
        cases hf : isEff o.op with
        | false =>
          rw [hf] at hr
          exact goOn (oa := none) (n' := n) (by omega) hdst (fun res alo e1 e2 => .val hf hw (by rw [hop, e1]) e2) (by rw [hf]; exact hr)
        | true =>
          rw [hf] at hr
          exact goOn (oa := none) (n' := n) (by omega) hdst (fun res alo e1 e2 => .act hf hw (by rw [hop, e1]; exact .val _) e2) (by rw [hf]; exact hr)
      | rd q =>
        rw [hop] at hr
        simp only [actA] at hr
        split at hr
        · rename_i v hq
          cases hg : agree P q v ((a :: hl).take (Nat.sub (a :: hl).length (ahead ops i))) with
          | false => rw [hg] at hr; cases hr
          | true =>
            rw [hg] at hr
            simp only [cond_true, behind, force_eq, hact, runK] at hr
            cases hf : isEff o.op with
            | false =>
              rw [hf] at hr
              exact goOn (oa := none) (n' := n) (by omega) hdst (fun res alo e1 e2 => .rd hf hw hop (by rw [e1]; exact hg) e2) (by rw [hf]; exact hr)
            | true =>
              rw [hf] at hr
              exact goOn (oa := none) (n' := n) (by omega) hdst (fun res alo e1 e2 => .act hf hw (by rw [hop, e1]; exact .rd hq) e2) (by rw [hf]; exact hr)
        · cases hr
      | al ob v =>
        rw [hop] at hr
        simp only [actA] at hr
        cases hf : isEff o.op with
        | true => rw [hf] at hr; cases hr
        | false =>
          rw [hf] at hr
          simp only [cond_false, behind, force_eq, runK] at hr
          refine goOn (oa := some ob) (v := v (base + i)) (n' := n) (by omega) hdst (fun res alo e1 e2 => .al hf hw hop e1 e2) ?_
          rw [hf, ← hb]
          exact hr
      | ef v A' =>
        rw [hop] at hr
        have hf : isEff o.op = true := by
          cases hf : isEff o.op with
          | true => rfl
          | false => have := (opRes_calm (P := P) (t := tm) (A := A) hf).1; rw [hop] at this; exact this.elim
        simp only [actA, behind, force_eq, runK, St.did] at hr
        exact goOn (oa := none) (n' := n) (by omega) hdst (fun res alo e1 e2 => .act hf hw (by rw [hop, e1]; exact .ef _ _) e2) (by rw [hf]; exact hr)
      | dfr df =>
        rw [hop] at hr
        simp only [actA] at hr
        split at hr
        · rename_i he; cases he
        · cases hr
      | pan v => rw [hop] at hr; cases hr
      | rcvr =>
        rw [hop] at hr
        simp only [actA, recA] at hr
        generalize hd.roundOf = q at hr
        cases q <;> cases rc <;> cases hr
      | pick m c => rw [hop] at hr; cases hr
      | call t =>
        rw [hop] at hr
        have hf : isEff o.op = true := by
          cases hf : isEff o.op with
          | true => rfl
          | false => have := (opRes_calm (P := P) (t := tm) (A := A) hf).1; rw [hop] at this; exact this.elim
        -- a call that is run
        have called : ∀ {cal : AF}, (∀ m v tk A', m < n + 1 → run P pr m cal A = some (.ret v tk, A') → ActA P pr (n + 1) A (.call t) v A') →
            runK (run P pr n) (.call cal ⟨hd, tm, .inReg ops ((i, o) :: rest) :: k, ⟨ds, rc, a :: hl⟩, .run⟩ A) = some out →
            ∃ res alo tE AE m, m < n + 1 ∧ Tr P pr ops base hd.n (n + 1) res alo ((i, o) :: rest) tm A (a :: hl) tE AE ∧ run P pr m ⟨hd, tE, k, ⟨ds, rc, []⟩, .run⟩ AE = some out := by
          intro cal hact hr
          simp only [runK] at hr
          split at hr
          · rename_i r A' hrun
            cases r with
            | panic ch => cases hr
            | ret v tk =>
              simp only [resume, force_eq, finishA, hdst, cond_true, St.did] at hr
              exact goOn (oa := none) (n' := n) (by omega) hdst (fun res alo e1 e2 => .act hf hw (by rw [hop, e1]; exact hact n v tk A' (by omega) hrun) e2) (by rw [hf]; exact hr)
          · cases hr
        cases t with
        | fn f args =>
          simp only [actA, callA] at hr
          split at hr
          · rename_i v A' hv
            simp only [behind, force_eq, runK, St.did] at hr
            exact goOn (oa := none) (n' := n) (by omega) hdst (fun res alo e1 e2 => .act hf hw (by rw [hop, e1]; exact .prim hv) e2) (by rw [hf]; exact hr)
          · rename_i hg
            split at hr
            · cases hr
            · rename_i fn hfn
              split at hr
              · rename_i c hb
                cases hle : Nat.ble args.length fn.ntmps with
                | false => rw [hle] at hr; cases hr
                | true =>
                  rw [hle] at hr
                  exact called (fun m v tk A' hm hrun => .call hg hfn hb hle hm hrun) hr
              · rename_i hb
                split at hr
                · rename_i e he
                  split at hr
                  · rename_i v A' hv
                    simp only [behind, force_eq, runK, St.did] at hr
                    exact goOn (oa := none) (n' := n) (by omega) hdst (fun res alo e1 e2 => .act hf hw (by rw [hop, e1]; exact .ext hg hfn hb he hv) e2) (by rw [hf]; exact hr)
                  · cases hr
                · cases hr
        | yield l args =>
          simp only [actA, yieldA] at hr
          split at hr
          · rename_i r hA
            cases hc : (Nat.beq args.length r.params.size && r.params.toList.all fun p => Nat.blt p r.n) with
            | false => rw [hc] at hr; cases hr
            | true =>
              rw [hc] at hr
              exact called (fun m v tk A' hm hrun => .yield hA hc hm hrun) hr
          · cases hr
    · rename_i hw
      simp only [behind, force_eq, hact, runK] at hr
      exact goOn (oa := none) (n' := n) (by omega) hdst (fun res alo e1 e2 => .skip hw e1 e2) hr
    · cases hr

end
end Go.Ae

/- Blocks made ahead of the evaluator; one operation of a region that draws, at both. -/
namespace Go.Ae
open Go

/-- a block that the model has and the evaluator has not yet -/
theorem HRel.place {φ : Phi} {A : AW} {h : Array Obj} (H : HRel φ A h) {b s l : Nat} {obj : Obj} (hb : φ b = none) (hl : b < A.next) : HRel (φ.put b (h.size, s, l)) A (h.push obj) := by
  have hle : φ.le (φ.put b (h.size, s, l)) := Phi.le_put _ _ _ hb
  have hne : ∀ c o, A.get c = some o → c ≠ b := by
    intro c o hc he
    subst he
    obtain ⟨R, s', l', obj', h1, _⟩ := H.con c o hc
    rw [hb] at h1; cases h1
  refine ⟨H.low, fun c R s' l' hc => ?_, fun c p hc => ?_, fun c c' p p' R s1 l1 s2 l2 hn hc hc' hf hf' => ?_⟩
  · by_cases he : c = b
    · subst he
      rw [Phi.put_same] at hc
      cases hc
      exact ⟨hl, by simp⟩
    · rw [Phi.put_other _ _ _ he] at hc
      obtain ⟨h1, h2⟩ := H.dom c R s' l' hc
      exact ⟨h1, by simp; omega⟩
  · obtain ⟨R, s', l', obj', h1, h2, h3⟩ := H.con c p hc
    refine ⟨R, s', l', obj', hle _ _ h1, ?_, h3.mono hle⟩
    rw [Array.getElem?_push]
    have := (H.dom c R s' l' h1).2
    rw [if_neg (by omega)]
    exact h2
  · rw [Phi.put_other _ _ _ (hne c p hc)] at hf
    rw [Phi.put_other _ _ _ (hne c' p' hc')] at hf'
    exact H.sep c c' p p' R s1 l1 s2 l2 hn hc hc' hf hf'

theorem Goes.place {lo : Nat} {φ : Phi} {A : AW} {w : World} {b s l n : Nat} {obj : Obj} (hb : φ b = none) (hn : A.get b = none) (hbn : lo ≤ b) :
    Goes lo φ A w (φ.put b (w.heap.size, s, l)) A { w with heap := w.heap.push obj, drawn := n } where
  le := Phi.le_put _ _ _ hb
  next := Nat.le_refl _
  size := by simp
  keep R hR _ := by simp only [Array.getElem?_push]; rw [if_neg (by omega)]
  img c p R s1 l1 hc hr hf hR := by
    have he : c ≠ b := fun he => by rw [he, hn] at hc; cases hc
    rw [Phi.put_other _ _ _ he] at hf
    exact ⟨c, p, s1, l1, hc, hr, hf⟩
  img2 c p R s1 l1 hc hf hR := by
    have he : c ≠ b := fun he => by rw [he, hn] at hc; cases hc
    rw [Phi.put_other _ _ _ he] at hf
    exact ⟨c, p, s1, l1, hc, hf⟩
  fresh c R s1 l1 hc hn := by
    by_cases he : c = b
    · subst he; exact hbn
    · rw [Phi.put_other _ _ _ he, hn] at hc; cases hc
  os := rfl
  output := rfl
  tape := rfl

/-- the evaluator makes a block that the model has already -/
theorem HRel.adopt {φ : Phi} {A : AW} {h : Array Obj} (H : HRel φ A h) {b R s l : Nat} {ob : AObj} {obj : Obj} (hb : φ b = some (R, s, l)) (ho : h[R]? = some obj) (hr : ORel φ ob obj s l)
    (hfree : ∀ c o s' l', A.get c = some o → φ c ≠ some (R, s', l')) : HRel φ (A.set b (some ob)) h := by
  refine ⟨fun c p hc => ?_, fun c R' s' l' hc => ?_, fun c p hc => ?_, fun c c' p p' R' s1 l1 s2 l2 hn hc hc' hf hf' => ?_⟩
  · rw [AW.next_set]
    rw [AW.get_set] at hc
    split at hc
    · rename_i he; subst he; exact (H.dom c _ _ _ hb).1
    · exact H.low c p hc
  · rw [AW.next_set]; exact H.dom c R' s' l' hc
  · rw [AW.get_set] at hc
    split at hc
    · rename_i he; subst he; cases hc; exact ⟨R, s, l, obj, hb, ho, hr⟩
    · exact H.con c p hc
  · rw [AW.get_set] at hc hc'
    split at hc
    · rename_i he
      subst he
      rw [if_neg (fun h => hn h.symm)] at hc'
      rw [hb] at hf
      cases hf
      exact absurd hf' (hfree c' p' _ _ hc')
    · split at hc'
      · rename_i he
        subst he
        rw [hb] at hf'
        cases hf'
        exact absurd hf (hfree c p _ _ hc)
      · exact H.sep c c' p p' R' s1 l1 s2 l2 hn hc hc' hf hf'

theorem Goes.adopt {lo : Nat} {φ φ' : Phi} {A A' : AW} {w w' : World} (G : Goes lo φ A w φ' A' w') {b R s l : Nat} {ob : AObj} (hb : φ' b = some (R, s, l)) (hR : w.heap.size ≤ R) : Goes lo φ A w φ' (A'.set b (some ob)) w' where
  le := G.le
  next := by rw [AW.next_set]; exact G.next
  size := G.size
  keep := G.keep
  img c p R' s1 l1 hc hr hf hR' := by
    rw [AW.get_set] at hc
    split at hc
    · rename_i he; subst he; rw [hb] at hf; cases hf; omega
    · exact G.img c p R' s1 l1 hc hr hf hR'
  img2 c p R' s1 l1 hc hf hR' := by
    rw [AW.get_set] at hc
    split at hc
    · rename_i he; subst he; rw [hb] at hf; cases hf; omega
    · exact G.img2 c p R' s1 l1 hc hf hR'
  fresh := G.fresh
  os := G.os
  output := G.output
  tape := G.tape

section
variable {P : Program} {pr : Prims} {ops : Array Oper} {φ : Phi} {A : AW} {w : World} {cs : List Frame}

/-- an operation (that makes no block), at both -/
theorem ent_go (hN : NoNum P) (hP : PrimsOk P pr) (hX : ExtsOk P) {n : Nat} (hS : ∀ m, m < n → Sim P pr m) {hd : Hd} {T : Tm} {j : Nat} {o : Oper} {rest : List (Nat × Oper)} {k : List AItem} {ds : List ADef} {rc : ARcv} {fr' : Frame} {v : AV} {A' : AW}
    (h : FRel P φ ⟨hd, T, .inReg ops ((j, o) :: rest) :: k, ⟨ds, rc, []⟩, .run⟩ fr' cs) (H : HRel φ A w.heap) (hG : GlobOk P φ) (hdst : dstOk hd.n o.dst = true)
    (he : (wantedA ops T o.guard = some false ∧ v = .undef ∧ A' = A) ∨ (wantedA ops T o.guard = some true ∧ ActA P pr n A (opRes P T A o.op) v A')) :
    GoOk P φ A.next A w rc hd cs (lone fr' cs w) ⟨hd, put T o.dst v, .inReg ops rest :: k, ⟨ds, rc, []⟩, .run⟩ A' := by
  have hs := stepOp_ok hN hP hX h H hG rfl
  unfold stepOp at hs
  rw [hdst] at hs
  simp only [cond_true] at hs
  have called : ∀ {cal : AF} {m : Nat} {tk : Bool}, m < n → run P pr m cal A = some (.ret v tk, A') → StepOk P φ A.next A w rc hd cs (lone fr' cs w) (.call cal ⟨hd, T, .inReg ops ((j, o) :: rest) :: k, ⟨ds, rc, []⟩, .run⟩ A) →
      GoOk P φ A.next A w rc hd cs (lone fr' cs w) ⟨hd, put T o.dst v, .inReg ops rest :: k, ⟨ds, rc, []⟩, .run⟩ A' := by
    intro cal m tk hm hr hs
    obtain ⟨φ1, cal', fr1', w1, s1, s2, s3, s4, s5, s6, s7, s8, s9, s10⟩ := hs
    obtain ⟨φ2, w2, o1, o2, o3⟩ := hS m hm cal A _ A' hr φ1 cal' (fr1' :: cs) w1 s2 s4 (hG.mono s5.le) s8
    have hres : resume ⟨hd, T, .inReg ops ((j, o) :: rest) :: k, ⟨ds, rc, []⟩, .run⟩ (.ret v tk) A' = some ⟨hd, put T o.dst v, .inReg ops rest :: k, ⟨ds, rc, []⟩, .run⟩ := by
      simp only [resume, force_eq, finishA, hdst, cond_true, St.did]
    obtain ⟨fr2', t1, t2, t3, t4, t5⟩ := resume_ok o1 (s3.mono o3.le) s9 hres s10
    exact ⟨φ2, fr2', cs, w2, s1.trans t1, t2, o2, s5.trans (o3.weaken s5.next), .same _ _, rfl, rfl⟩
  rcases he with ⟨hw, rfl, rfl⟩ | ⟨hw, ha⟩
  · rw [hw] at hs
    simp only [behind, force_eq] at hs
    rw [actZero _ rfl] at hs
    exact hs
  · rw [hw] at hs
    simp only at hs
    generalize opRes P T A o.op = r at ha hs
    cases ha with
    | val =>
      simp only [actA, behind, force_eq] at hs
      rw [actZero _ rfl] at hs
      exact hs
    | rd hq =>
      simp only [actA, behind, force_eq, hq] at hs
      exact hs
    | ef =>
      simp only [actA, behind, force_eq] at hs
      exact hs
    | prim h0 =>
      simp only [actA, callA, behind, force_eq, h0] at hs
      exact hs
    | ext h0 h1 h2 h3 h4 =>
      simp only [actA, callA, behind, force_eq, h0, h1, h2, h3, h4] at hs
      exact hs
    | call h0 h1 h2 h3 hm hr =>
      simp only [actA, callA, h0, h1, h2, h3, cond_true] at hs
      exact called hm hr hs
    | yield h1 h2 hm hr =>
      simp only [actA, yieldA, h1, h2, cond_true] at hs
      exact called hm hr hs

/-- an operation that makes a block, ahead of the evaluator -/
theorem ent_al {hd : Hd} {T : Tm} {j : Nat} {o : Oper} {rest : List (Nat × Oper)} {k : List AItem} {ds : List ADef} {rc : ARcv} {fr' : Frame} {ob : AObj} {v : Nat → AV} {b : Nat}
    (h : FRel P φ ⟨hd, T, .inReg ops ((j, o) :: rest) :: k, ⟨ds, rc, []⟩, .run⟩ fr' cs) (H : HRel φ A w.heap) (hG : GlobOk P φ) (hdst : dstOk hd.n o.dst = true)
    (hw : wantedA ops T o.guard = some true) (hf : isEff o.op = false) (hr : opRes P T A o.op = .al ob v) (hb : φ b = none) (hbl : b < A.next) :
    ∃ fr1' s l obj w', Steps P (lone fr' cs w) (lone fr1' cs w') ∧ FRel P (φ.put b (w.heap.size, s, l)) ⟨hd, put T o.dst (v b), .inReg ops rest :: k, ⟨ds, rc, []⟩, .run⟩ fr1' cs ∧
      HRel (φ.put b (w.heap.size, s, l)) A w'.heap ∧ Goes b φ A w (φ.put b (w.heap.size, s, l)) A w' ∧ w'.heap = w.heap.push obj ∧ ORel (φ.put b (w.heap.size, s, l)) ob obj s l := by
  have hm := mode_run h rfl
  have hkd : fr'.kind = .normal ∨ fr'.kind = .deferred := by rw [h.kind]; exact kindOf_or _
  obtain ⟨it', k', ht, hi, hk⟩ := todo_cons (h.todo rfl)
  cases hi with
  | inReg hl =>
  cases hl with
  | cons ho hrest =>
  rename_i is j'
  obtain ⟨hij, ho⟩ := ho
  simp only at hij ho
  subst hij
  have hwant := wantedA_ok h.tmps hw
  have law := execOp_ok (A := A) (h.eval hG) o
  rw [hr] at law
  obtain ⟨obj, u, n, s, l, h1, h2⟩ := law w
  obtain ⟨g1, g2⟩ := h2 b hb
  have hop : fr'.oper? = some o := by simp [Frame.oper?, ht, ho]
  have hnd : ∀ l c, fr'.roundOf = some l → o.op ≠ .defer c := by
    intro l c _ hc
    rw [hc] at hf
    cases hf
  have hs : Go.stepG P true { frame := fr', callers := cs, status := .running, dying := none } w = Go.stepG.apply P true fr' cs none (execOp fr'.eval o) w := by
    simp only [Go.stepG, hm, Go.stepG.exec, ht, ho, Option.map_some, hwant, Option.getD_some, if_true, Go.stepG.oper, hop]
  have hn : A.get b = none := by
    cases hc : A.get b with
    | none => rfl
    | some p => obtain ⟨R, s', l', obj', e1, _⟩ := H.con b p hc; rw [hb] at e1; cases e1
  have G := Goes.place (lo := b) (s := s) (l := l) (n := n) (obj := obj) (w := w) hb hn (Nat.le_refl _)
  refine ⟨fr'.finish u, s, l, obj, { w with heap := w.heap.push obj, drawn := n }, .one (step_lone_go (by rw [hs]; exact apply_value h1)), ?_, H.place hb hbl, G, rfl, g1⟩
  exact frel_finish h G.le hdst g2 rfl (rrel_finish (h.rcv.mono G.le) hkd u)

end
end Go.Ae

/- The evaluator's order and the model's order of a region that draws. -/
namespace Go.Ae
open Go
section
variable {ops : Array Oper}

/-- the evaluator's order, from where D is done -/
inductive Suf (ops : Array Oper) : (Nat → Bool) → List (Nat × Oper) → Prop
  | nil {D : Nat → Bool} (h : ∀ i, i < ops.size → D i = true) : Suf ops D []
  | cons {D : Nat → Bool} {i : Nat} {o : Oper} {rest : List (Nat × Oper)} (ho : ops[i]? = some o) (hn : D i = false) (hb : ∀ x, befD ops i x = true → D x = true)
      (hl : isEff o.op = true ∨ ∀ l1 e oe l2, rest = l1 ++ (e, oe) :: l2 → (∀ p ∈ l1, isEff p.2.op = false) → isEff oe.op = true → befD ops e i = true) (hr : Suf ops (setD D i) rest) : Suf ops D ((i, o) :: rest)

/-- the model's order -/
inductive Ord (ops : Array Oper) : (Nat → Bool) → List Nat → Prop
  | nil {D : Nat → Bool} (h : ∀ i, i < ops.size → D i = true) : Ord ops D []
  | cons {D : Nat → Bool} {j : Nat} {r : List Nat} (hj : j < ops.size) (hn : D j = false) (hb : ∀ x, befD ops j x = true → D x = true) (hr : Ord ops (setD D j) r) : Ord ops D (j :: r)

theorem effMask_bit (ops : Array Oper) (i : Nat) : (effMask ops).testBit i = true ↔ ∃ o, ops[i]? = some o ∧ isEff o.op = true := by
  unfold effMask
  have key : ∀ (l : List Oper) (s m : Nat), ((l.zipIdx s).foldl (fun m (o, i) => if isEff o.op then m ||| 2 ^ i else m) m).testBit i = true ↔ m.testBit i = true ∨ ∃ o, s ≤ i ∧ l[i - s]? = some o ∧ isEff o.op = true := by
    intro l
    induction l with
    | nil => intro s m; simp
    | cons o l ih =>
      intro s m
      simp only [List.zipIdx_cons, List.foldl_cons]
      rw [ih]
      have step : (∃ o_1, s ≤ i ∧ (o :: l)[i - s]? = some o_1 ∧ isEff o_1.op = true) ↔ (i = s ∧ isEff o.op = true) ∨ ∃ o, s + 1 ≤ i ∧ l[i - (s + 1)]? = some o ∧ isEff o.op = true := by
        constructor
        · rintro ⟨o', h1, h2, h3⟩
          by_cases he : i = s
          · subst he; simp at h2; subst h2; exact .inl ⟨rfl, h3⟩
          · right
            refine ⟨o', by omega, ?_, h3⟩
            rw [show i - s = (i - (s + 1)) + 1 by omega] at h2
            simpa using h2
        · rintro (⟨rfl, h⟩ | ⟨o', h1, h2, h3⟩)
          · exact ⟨o, Nat.le_refl _, by simp, h⟩
          · refine ⟨o', by omega, ?_, h3⟩
            rw [show i - s = (i - (s + 1)) + 1 by omega]
            simpa using h2
      rw [step]
      by_cases he : isEff o.op = true
      · simp only [he, if_true, Nat.testBit_or, Bool.or_eq_true, Nat.testBit_two_pow, decide_eq_true_eq, and_true]
        constructor
        · rintro ((h | h) | h)
          · exact .inl h
          · exact .inr (.inl h.symm)
          · exact .inr (.inr h)
        · rintro (h | h | h)
          · exact .inl (.inl h)
          · exact .inl (.inr h.symm)
          · exact .inr h
      · simp [he]
  have := key ops.toList 0 0
  simp only [Nat.zero_le, true_and, Nat.sub_zero, Nat.zero_testBit, Bool.false_eq_true, false_or, Array.getElem?_toList] at this
  exact this

theorem bitsUnder_mem (m : Nat) : ∀ (n i : Nat), i ∈ bitsUnder m n ↔ i < n ∧ m.testBit i = true
  | 0, i => by simp [bitsUnder]
  | n + 1, i => by
    simp only [bitsUnder, List.mem_append, bitsUnder_mem m n]
    by_cases h : m.testBit n = true
    · simp only [h, if_true, List.mem_singleton]
      constructor
      · rintro (⟨h1, h2⟩ | rfl)
        · exact ⟨by omega, h2⟩
        · exact ⟨by omega, h⟩
      · rintro ⟨h1, h2⟩
        by_cases he : i = n
        · exact .inr he
        · exact .inl ⟨by omega, h2⟩
    · simp only [h, Bool.false_eq_true, if_false, List.not_mem_nil, or_false]
      constructor
      · rintro ⟨h1, h2⟩; exact ⟨by omega, h2⟩
      · rintro ⟨h1, h2⟩
        by_cases he : i = n
        · subst he; exact absurd h2 h
        · exact ⟨by omega, h2⟩

theorem bitsUnder_nodup (m : Nat) : ∀ n, (bitsUnder m n).Nodup
  | 0 => List.nodup_nil
  | n + 1 => by
    simp only [bitsUnder]
    rw [List.nodup_append]
    refine ⟨bitsUnder_nodup m n, by split <;> simp, fun a ha b hb hab => ?_⟩
    have := (bitsUnder_mem m n a).1 ha
    split at hb
    · simp at hb; omega
    · simp at hb

theorem nodup_length : ∀ {l r : List Nat}, l.Nodup → (∀ x ∈ l, x ∈ r) → l.length ≤ r.length
  | [], _, _, _ => Nat.zero_le _
  | a :: l, r, hn, hs => by
    obtain ⟨h1, h2⟩ := List.nodup_cons.1 hn
    have ha := hs a (List.mem_cons_self ..)
    have := nodup_length (r := r.erase a) h2 fun x hx => by
      rw [List.mem_erase_of_ne (fun he => h1 (by rw [← he]; exact hx))]
      exact hs x (List.mem_cons_of_mem _ hx)
    rw [List.length_erase_of_mem ha] at this
    have : 0 < r.length := List.length_pos_of_mem ha
    simp only [List.length_cons]
    omega

theorem numbered_cons {i : Nat} {o : Oper} {l : List Nat} (h : ops[i]? = some o) : numbered ops (i :: l) = (i, o) :: numbered ops l := by simp [numbered, h]

theorem numbered_mem : ∀ {l : List Nat} {p : Nat × Oper}, p ∈ numbered ops l → p.1 ∈ l ∧ ops[p.1]? = some p.2
  | [], p, h => by simp [numbered] at h
  | i :: l, p, h => by
    unfold numbered at h
    split at h
    · rename_i o ho
      rcases List.mem_cons.1 h with rfl | h
      · exact ⟨List.mem_cons_self .., ho⟩
      · obtain ⟨h1, h2⟩ := numbered_mem h
        exact ⟨List.mem_cons_of_mem _ h1, h2⟩
    · simp at h

theorem numbered_fst : ∀ {l : List Nat}, (∀ i ∈ l, i < ops.size) → (numbered ops l).map (·.1) = l
  | [], _ => rfl
  | i :: l, h => by
    have hi := h i (List.mem_cons_self ..)
    rw [numbered_cons (Array.getElem?_eq_getElem hi)]
    simp only [List.map_cons, numbered_fst fun x hx => h x (List.mem_cons_of_mem _ hx)]

theorem find_numbered : ∀ {l : List Nat}, (∀ i ∈ l, i < ops.size) → ∀ l1 e oe l2, numbered ops l = l1 ++ (e, oe) :: l2 → (∀ p ∈ l1, isEff p.2.op = false) → isEff oe.op = true → l.find? ((effMask ops).testBit ·) = some e
  | [], _, l1, e, oe, l2, h, _, _ => by simp [numbered] at h
  | i :: l, hr, l1, e, oe, l2, h, hf, he => by
    have hi := hr i (List.mem_cons_self ..)
    rw [numbered_cons (Array.getElem?_eq_getElem hi)] at h
    cases l1 with
    | nil =>
      simp only [List.nil_append, List.cons.injEq, Prod.mk.injEq] at h
      obtain ⟨⟨rfl, ho⟩, _⟩ := h
      rw [List.find?_cons, (effMask_bit ops i).2 ⟨_, Array.getElem?_eq_getElem hi, by rw [ho]; exact he⟩]
    | cons p l1 =>
      simp only [List.cons_append, List.cons.injEq] at h
      obtain ⟨rfl, h⟩ := h
      have hp := hf _ (List.mem_cons_self ..)
      simp only at hp
      have : (effMask ops).testBit i = false := by
        cases hb : (effMask ops).testBit i with
        | false => rfl
        | true =>
          obtain ⟨o, e1, e2⟩ := (effMask_bit ops i).1 hb
          rw [Array.getElem?_eq_getElem hi] at e1
          cases e1
          rw [hp] at e2; cases e2
      rw [List.find?_cons, this]
      exact find_numbered (fun x hx => hr x (List.mem_cons_of_mem _ hx)) l1 e oe l2 h (fun p hp => hf p (List.mem_cons_of_mem _ hp)) he

theorem suf_of (n : Nat) (hn : n = ops.size) : ∀ (l : List Nat) (ok : Bool) (done : Nat), (l.foldl (fun (x : Bool × Nat) i => (x.1 && !x.2.testBit i && (((Region.before ops).getD i 0) &&& x.2) == (Region.before ops).getD i 0, x.2 ||| 2 ^ i)) (ok, done)).1 = true →
    (l.foldl (fun (x : Bool × Nat) i => (x.1 && !x.2.testBit i && (((Region.before ops).getD i 0) &&& x.2) == (Region.before ops).getD i 0, x.2 ||| 2 ^ i)) (ok, done)).2 = 2 ^ n - 1 →
    lateOk (Region.before ops) (effMask ops) l = true → ok = true ∧ (∀ i ∈ l, i < n) ∧ (∀ i, done.testBit i = true → i < n) ∧ Suf ops (fun i => done.testBit i) (numbered ops l)
  | [], ok, done, h1, h2, _ => by
    simp only [List.foldl_nil] at h1 h2
    refine ⟨h1, by simp, fun i hi => ?_, .nil fun i hi => ?_⟩
    · rw [h2, Nat.testBit_two_pow_sub_one] at hi; simpa using hi
    · rw [h2, Nat.testBit_two_pow_sub_one]; simp; omega
  | i :: l, ok, done, h1, h2, hlate => by
    simp only [List.foldl_cons] at h1 h2
    simp only [lateOk, Bool.and_eq_true] at hlate
    obtain ⟨a1, a2, a3, a4⟩ := suf_of n hn l _ _ h1 h2 hlate.2
    simp only [Bool.and_eq_true, Bool.not_eq_true', beq_iff_eq] at a1
    obtain ⟨⟨b1, b2⟩, b3⟩ := a1
    have hi : i < n := a3 i (by simp [Nat.testBit_or])
    have hl' : ∀ x ∈ i :: l, x < n := fun x hx => by
      rcases List.mem_cons.1 hx with rfl | hx
      · exact hi
      · exact a2 x hx
    have ho : ops[i]? = some ops[i] := Array.getElem?_eq_getElem (by omega)
    refine ⟨b1, hl', fun x hx => a3 x (by simp [Nat.testBit_or, hx]), ?_⟩
    rw [numbered_cons ho]
    refine .cons ho b2 (fun x hx => ?_) ?_ ?_
    · have := congrArg (fun m => m.testBit x) b3
      simp only [Nat.testBit_and] at this
      unfold befD at hx
      rw [hx] at this
      simpa using this
    · have hL := hlate.1
      rw [Bool.or_eq_true] at hL
      rcases hL with hL | hL
      · obtain ⟨o, e1, e2⟩ := (effMask_bit ops i).1 hL
        rw [ho] at e1
        cases e1
        exact .inl e2
      · right
        intro l1 e oe l2 hsp hf he
        rw [find_numbered (fun x hx => by have := a2 x hx; omega) l1 e oe l2 hsp hf he] at hL
        exact hL
    · have : setD (fun x => done.testBit x) i = fun x => (done ||| 2 ^ i).testBit x := by
        funext x
        unfold setD
        rw [Nat.testBit_or, Nat.testBit_two_pow]
        by_cases hx : x = i
        · subst hx; simp
        · rw [if_neg hx]
          have : (decide (i = x)) = false := by simp; exact fun h => hx h.symm
          rw [this, Bool.or_false]
      rw [this]
      exact a4

theorem drawOk_spec {l : List Nat} (h : drawOk ops l = true) : tempOk ops (Region.before ops) = true ∧ (∀ i ∈ l, i < ops.size) ∧ Suf ops (fun _ => false) (numbered ops l) ∧
    (∀ i j oi oj, ops[i]? = some oi → ops[j]? = some oj → isEff oi.op = true → isEff oj.op = true → i < j → befD ops j i = true) := by
  unfold drawOk at h
  simp only [Bool.and_eq_true] at h
  obtain ⟨⟨⟨h1, h2⟩, h3⟩, h4, h5⟩ := h
  have e0 : (fun (x : Bool × Nat) i => (x.1 && !x.2.testBit i && (((Region.before ops).getD i 0) &&& x.2) == (Region.before ops).getD i 0, x.2 ||| 2 ^ i)) = fun (x : Bool × Nat) i => match x with
      | (ok, done) => (ok && !done.testBit i && ((Region.before ops).getD i 0 &&& done) == (Region.before ops).getD i 0, done ||| 2 ^ i) := by
    funext x i; rfl
  rw [beq_iff_eq] at h5
  rw [← e0] at h4 h5
  obtain ⟨_, a2, _, a4⟩ := suf_of ops.size rfl l true 0 h4 h5 h2
  refine ⟨h1, a2, ?_, fun i j oi oj hi hj ei ej hij => ?_⟩
  · have : (fun i => (0 : Nat).testBit i) = fun _ => false := by funext i; simp
    rw [this] at a4
    exact a4
  · rw [List.all_eq_true] at h3
    have := h3 j ((bitsUnder_mem _ _ _).2 ⟨(Array.getElem?_eq_some_iff.1 hj).1, (effMask_bit ops j).2 ⟨oj, hj, ej⟩⟩)
    rw [List.all_eq_true] at this
    refine this i ((bitsUnder_mem _ _ _).2 ⟨(Array.getElem?_eq_some_iff.1 hi).1, ?_⟩)
    rw [Nat.testBit_and, (effMask_bit ops i).2 ⟨oi, hi, ei⟩, Nat.testBit_two_pow_sub_one]
    simp [hij]

end
end Go.Ae

/- The model's order runs through all operations, each behind what lies before it. -/
namespace Go.Ae
open Go
section
variable {ops : Array Oper}

theorem Suf.undone {D : Nat → Bool} {ls : List (Nat × Oper)} (h : Suf ops D ls) : ∀ p ∈ ls, D p.1 = false ∧ ops[p.1]? = some p.2 := by
  induction h with
  | nil => intro p hp; simp at hp
  | cons ho hn _ _ _ ih =>
    intro p hp
    rcases List.mem_cons.1 hp with rfl | hp
    · exact ⟨hn, ho⟩
    · obtain ⟨h1, h2⟩ := ih p hp
      unfold setD at h1
      split at h1
      · cases h1
      · exact ⟨h1, h2⟩
theorem Suf.nodup {D : Nat → Bool} {ls : List (Nat × Oper)} (h : Suf ops D ls) : (ls.map (·.1)).Nodup := by
  induction h with
  | nil => simp
  | cons ho hn _ _ hr ih =>
    simp only [List.map_cons, List.nodup_cons]
    refine ⟨fun hm => ?_, ih⟩
    obtain ⟨p, h1, h2⟩ := List.mem_map.1 hm
    have := (hr.undone p h1).1
    rw [h2] at this
    simp [setD] at this
theorem Suf.all {D : Nat → Bool} {ls : List (Nat × Oper)} (h : Suf ops D ls) : ∀ i, i < ops.size → D i = false → ∃ o, (i, o) ∈ ls := by
  induction h with
  | nil h => intro i hi hd; rw [h i hi] at hd; cases hd
  | @cons D i0 o rest ho hn _ _ _ ih =>
    intro i hi hd
    by_cases he : i = i0
    · subst he; exact ⟨o, List.mem_cons_self ..⟩
    · obtain ⟨o', h'⟩ := ih i hi (by simp [setD, he, hd])
      exact ⟨o', List.mem_cons_of_mem _ h'⟩

theorem befOne_edge (acc : Array Nat) (o : Oper) {e : Edge} (he : e ∈ o.after) (hb : Region.binds .any e = true) : (befOne acc o).testBit e.on = true := by
  unfold befOne
  rw [← Array.foldl_toList]
  have key : ∀ (l : List Edge) (s : Nat), (s.testBit e.on = true ∨ e ∈ l) → (l.foldl (fun s e => if Region.binds .any e then s ||| 2 ^ e.on ||| acc.getD e.on 0 else s) s).testBit e.on = true := by
    intro l
    induction l with
    | nil => intro s h; simpa using h
    | cons x l ih =>
      intro s h
      simp only [List.foldl_cons]
      apply ih
      rcases h with h | h
      · left; split <;> simp [Nat.testBit_or, h]
      · rcases List.mem_cons.1 h with rfl | h
        · left; rw [if_pos hb]; simp [Nat.testBit_or]
        · exact .inr h
  exact key _ _ (.inr (by simpa using he))

theorem bef_edge (ops : Array Oper) {j : Nat} {o : Oper} (ho : ops[j]? = some o) {e : Edge} (he : e ∈ o.after) (hb : Region.binds .any e = true) : befD ops j e.on = true := by
  have hdef : Region.before ops = ops.toList.foldl (fun acc o => acc.push (befOne acc o)) #[] := by
    unfold Region.before befOne
    rw [← Array.foldl_toList]
  have key : ∀ (l : List Oper) (acc : Array Nat), (∀ m, m < acc.size → (l.foldl (fun acc o => acc.push (befOne acc o)) acc).getD m 0 = acc.getD m 0) ∧
      (∀ m o, l[m]? = some o → ∃ acc' : Array Nat, (l.foldl (fun acc o => acc.push (befOne acc o)) acc).getD (acc.size + m) 0 = befOne acc' o) := by
    intro l
    induction l with
    | nil => intro acc; exact ⟨fun m h => rfl, fun m o h => by simp at h⟩
    | cons o l ih =>
      intro acc
      obtain ⟨h2, h3⟩ := ih (acc.push (befOne acc o))
      simp only [List.foldl_cons]
      refine ⟨fun m hm => ?_, fun m o' hm => ?_⟩
      · rw [h2 m (by simp; omega), Array.getD_eq_getD_getElem?, Array.getD_eq_getD_getElem?, Array.getElem?_push, if_neg (by omega)]
      · cases m with
        | zero =>
          simp only [List.getElem?_cons_zero, Option.some.injEq] at hm
          subst hm
          refine ⟨acc, ?_⟩
          rw [Nat.add_zero, h2 acc.size (by simp), Array.getD_eq_getD_getElem?, Array.getElem?_push_size]; rfl
        | succ m =>
          obtain ⟨acc', a2⟩ := h3 m o' (by simpa using hm)
          refine ⟨acc', ?_⟩
          rw [← a2]
          congr 1
          simp; omega
  obtain ⟨_, h3⟩ := key ops.toList #[]
  obtain ⟨acc', a⟩ := h3 j o (by simpa using ho)
  simp only [List.size_toArray, List.length_nil, Nat.zero_add] at a
  unfold befD
  rw [hdef, a]
  exact befOne_edge acc' o he hb

theorem countP_lt {p q : Nat → Bool} : ∀ {l : List Nat}, (∀ i ∈ l, q i = true → p i = true) → ∀ j ∈ l, p j = true → q j = false → l.countP q < l.countP p
  | a :: l, h, j, hj, hp, hq => by
    have hmono : l.countP q ≤ l.countP p := List.countP_mono_left fun i hi hqi => h i (List.mem_cons_of_mem _ hi) hqi
    rcases List.mem_cons.1 hj with rfl | hj
    · rw [List.countP_cons, List.countP_cons, hp, hq]; simp; omega
    · have := countP_lt (fun i hi => h i (List.mem_cons_of_mem _ hi)) j hj hp hq
      rw [List.countP_cons, List.countP_cons]
      have ha := h a (List.mem_cons_self ..)
      cases hqa : q a with
      | false => cases p a <;> simp <;> omega
      | true => rw [ha hqa]; simp; omega

/-- something can be done, as long as not all is -/
theorem ready_of_undone {D : Nat → Bool} {ls : List (Nat × Oper)} (hs : Suf ops D ls) {listed : Array Bool} (hz : listed.size = ops.size) : (∀ i, D i = true → i < ops.size) → (∀ i, D i = true → listed.getD i false = true) →
    (∃ i, i < ops.size ∧ listed.getD i false = false) → ∃ j, j ∈ Region.ready .any ops listed := by
  induction hs with
  | nil h => intro _ h1 ⟨i, hi, hl⟩; rw [h1 i (h i hi)] at hl; cases hl
  | @cons D i0 o rest ho hn hb _ _ ih =>
    intro hD h1 h2
    have hi0 : i0 < ops.size := (Array.getElem?_eq_some_iff.1 ho).1
    cases hl : listed.getD i0 false with
    | false =>
      refine ⟨i0, mem_ready.2 ⟨?_, o, ho, fun e he hbd => h1 _ (hb _ (bef_edge ops ho he hbd))⟩⟩
      rw [Array.getD_eq_getD_getElem?, Array.getElem?_eq_getElem (by omega)] at hl ⊢
      exact hl
    | true =>
      apply ih
      · intro i hi
        unfold setD at hi
        split at hi
        · rename_i he; subst he; exact hi0
        · exact hD i hi
      · intro i hi
        unfold setD at hi
        split at hi
        · rename_i he; subst he; exact hl
        · exact h1 i hi
      · exact h2

theorem setD_listed {listed : Array Bool} {j : Nat} (hj : j < listed.size) : (fun i => (listed.setIfInBounds j true).getD i false) = setD (fun i => listed.getD i false) j := by
  funext i
  unfold setD
  by_cases he : i = j
  · subst he
    rw [if_pos rfl, Array.getD_eq_getD_getElem?, Array.getElem?_setIfInBounds_self_of_lt hj]; rfl
  · rw [if_neg he, getD_set_ne false (fun h => he h.symm)]

theorem ord_go {ls : List (Nat × Oper)} (hs : Suf ops (fun _ => false) ls) : ∀ (fuel t : Nat) (listed : Array Bool), listed.size = ops.size → Closed ops listed → (List.range ops.size).countP (fun i => !listed.getD i false) ≤ fuel →
    Ord ops (fun i => listed.getD i false) (Region.linearise.go .any ops fuel t listed []) := by
  intro fuel
  induction fuel with
  | zero =>
    intro t listed hz hc hf
    refine .nil fun i hi => ?_
    have h0 : (List.range ops.size).countP (fun i => !listed.getD i false) = 0 := by omega
    rw [List.countP_eq_zero] at h0
    have := h0 i (List.mem_range.2 hi)
    simpa using this
  | succ fuel ih =>
    intro t listed hz hc hf
    simp only [Region.linearise.go]
    change Ord ops _ (match (Region.ready .any ops listed)[t % (Region.ready .any ops listed).length]? with
      | some i => Region.linearise.go .any ops fuel (t / (Region.ready .any ops listed).length) (listed.setIfInBounds i true) [i]
      | none => [].reverse)
    cases hi : (Region.ready .any ops listed)[t % (Region.ready .any ops listed).length]? with
    | none =>
      have hnil : Region.ready .any ops listed = [] := by
        cases hr : Region.ready .any ops listed with
        | nil => rfl
        | cons x xs =>
          rw [hr] at hi
          have hlt : t % (x :: xs).length < (x :: xs).length := Nat.mod_lt _ (by simp)
          simp at hi
          simp at hlt
          omega
      simp only [List.reverse_nil]
      refine .nil fun i hi => ?_
      cases hl : listed.getD i false with
      | true => rfl
      | false =>
        obtain ⟨j, hj⟩ := ready_of_undone hs hz (fun _ h => by cases h) (fun _ h => by cases h) ⟨i, hi, hl⟩
        rw [hnil] at hj
        simp at hj
    | some j =>
      simp only []
      rw [linearise_go_acc, List.reverse_singleton, List.singleton_append]
      have hj := List.mem_of_getElem? hi
      obtain ⟨r1, o, ho, r3⟩ := mem_ready.1 hj
      have hlt : j < ops.size := (Array.getElem?_eq_some_iff.1 ho).1
      have hjf : listed.getD j false = false := by
        rw [Array.getD_eq_getD_getElem?, Array.getElem?_eq_getElem (by omega)] at r1 ⊢
        exact r1
      refine .cons hlt hjf (fun x hx => ready_before hc hj x hx) ?_
      rw [← setD_listed (by omega)]
      refine ih _ _ (by simpa using hz) (closed_set hc hj) ?_
      have := countP_lt (l := List.range ops.size) (p := fun i => !listed.getD i false) (q := fun i => !(listed.setIfInBounds j true).getD i false) (fun i _ hq => by
        have e := congrFun (setD_listed (listed := listed) (j := j) (by omega)) i
        rw [e] at hq
        unfold setD at hq
        split at hq
        · simp at hq
        · exact hq) j (List.mem_range.2 hlt) (by simp [hjf]) (by
        have e := congrFun (setD_listed (listed := listed) (j := j) (by omega)) j
        rw [e]; simp [setD])
      omega

theorem ord_schedule {ls : List (Nat × Oper)} (hs : Suf ops (fun _ => false) ls) (t : Nat) : Ord ops (fun _ => false) (Region.schedule true ops t) := by
  have h := ord_go hs ops.size t (Array.replicate ops.size false) (by simp) (fun j i hj _ => by
    rw [Array.getD_eq_getD_getElem?, Array.getElem?_replicate] at hj; split at hj <;> cases hj) (by
    refine Nat.le_trans (List.countP_le_length) (by simp))
  have e : (fun i => (Array.replicate ops.size false).getD i false) = fun _ => false := by
    funext i
    rw [Array.getD_eq_getD_getElem?, Array.getElem?_replicate]
    split <;> rfl
  rw [e] at h
  exact h

theorem Ord.lt {D : Nat → Bool} {l : List Nat} (h : Ord ops D l) : ∀ i ∈ l, i < ops.size := by
  induction h with
  | nil => intro i hi; simp at hi
  | cons hj _ _ _ ih =>
    intro i hi
    rcases List.mem_cons.1 hi with rfl | hi
    · exact hj
    · exact ih i hi

end
end Go.Ae

/- A region that draws, at both: what holds between, and the steps. -/
namespace Go.Ae
open Go

structure Fix where
  P : Program
  pr : Prims
  ops : Array Oper
  base : Nat
  n : Nat
  hd : Hd
  k : List AItem
  ds : List ADef
  rc : ARcv
  cs : List Frame
  res : Nat → AV
  alo : Nat → Option AObj
  φ0 : Phi
  A0 : AW
  w0 : World
  t0 : Tm
  tE : Tm
  AE : AW

/-- what a run of the region's operations keeps of the blocks made ahead -/
def Keeps (F : Fix) (X : AW) (φ : Phi) (w : World) (A1 : AW) (φ1 : Phi) (w1 : World) : Prop :=
  (∀ i, i < F.ops.size → φ1 (F.base + i) = φ (F.base + i)) ∧
  ∀ R, R < w.heap.size → (∀ c o s' l', X.get c = some o → φ c ≠ some (R, s', l')) → w1.heap[R]? = w.heap[R]? ∧ ∀ c o s' l', A1.get c = some o → φ1 c ≠ some (R, s', l')

theorem Goes.keeps {F : Fix} {X A1 : AW} {φ φ1 : Phi} {w w1 : World} {lo : Nat} (G : Goes lo φ X w φ1 A1 w1) (hb : F.base + F.ops.size ≤ lo) : Keeps F X φ w A1 φ1 w1 := by
  refine ⟨fun i hi => ?_, fun R hR hf => ⟨G.keep R hR fun b o s l hg _ => hf b o s l hg, fun c o s' l' hc he => ?_⟩⟩
  · cases hφ : φ (F.base + i) with
    | some x => exact G.le _ _ hφ
    | none =>
      cases hφ1 : φ1 (F.base + i) with
      | none => rfl
      | some x =>
        obtain ⟨R, s, l⟩ := x
        have := G.fresh _ _ _ _ hφ1 hφ
        omega
  · obtain ⟨b0, o0, s0, l0, h1, h2⟩ := G.img2 c o R s' l' hc he hR
    exact hf b0 o0 s0 l0 h1 h2

/-- where a region is -/
structure Inv (F : Fix) (D Dc : Nat → Bool) (rest : List Nat) (ls : List (Nat × Oper)) (t T : Tm) (W : AW) (h : List AW) (φ : Phi) (fr' : Frame) (w : World) : Prop where
  suf : Suf F.ops Dc ls
  tr : Tr F.P F.pr F.ops F.base F.hd.n F.n F.res F.alo ls t W h F.tE F.AE
  ac : ∃ ac : List Nat, h.length = ac.length + 1 ∧ ∀ i o, F.ops[i]? = some o → isEff o.op = true → Dc i = true → i ∈ ac
  ct : ∀ x, Tm.get t x = cur F.t0 F.ops F.res Dc x
  cT : ∀ x, Tm.get T x = cur F.t0 F.ops F.res D x
  fr : FRel F.P φ ⟨F.hd, T, .inReg F.ops (numbered F.ops rest) :: F.k, ⟨F.ds, F.rc, []⟩, .run⟩ fr' F.cs
  hr : HRel φ W w.heap
  go : Goes F.A0.next F.φ0 F.A0 F.w0 φ W w
  base : F.base + F.ops.size ≤ W.next
  sub : ∀ i, Dc i = true → D i = true
  dlt : ∀ i, D i = true → i < F.ops.size
  dcl : ∀ a i, D a = true → befD F.ops a i = true → D i = true
  ccl : ∀ a i, Dc a = true → befD F.ops a i = true → Dc i = true
  acts : ∀ i o, F.ops[i]? = some o → isEff o.op = true → D i = true → Dc i = true
  pend : ∀ i ob, D i = true → Dc i = false → F.alo i = some ob → ∃ R s l obj, φ (F.base + i) = some (R, s, l) ∧ F.w0.heap.size ≤ R ∧ w.heap[R]? = some obj ∧ ORel φ ob obj s l ∧ (∀ c o s' l', W.get c = some o → φ c ≠ some (R, s', l'))
  inj : ∀ i j R s l s' l', D i = true → Dc i = false → D j = true → Dc j = false → φ (F.base + i) = some (R, s, l) → φ (F.base + j) = some (R, s', l') → i = j
  free : ∀ i, i < F.ops.size → D i = false → φ (F.base + i) = none

section
variable {F : Fix}

theorem setD_self {D : Nat → Bool} {j : Nat} : setD D j j = true := by simp [setD]
theorem setD_ne {D : Nat → Bool} {i j : Nat} (h : i ≠ j) : setD D j i = D i := by simp [setD, h]
theorem setD_or {D : Nat → Bool} {i j : Nat} (h : setD D j i = true) : i = j ∨ D i = true := by
  by_cases he : i = j
  · exact .inl he
  · rw [setD_ne he] at h; exact .inr h
theorem setD_of {D : Nat → Bool} {i j : Nat} (h : D i = true) : setD D j i = true := by
  by_cases he : i = j
  · subst he; exact setD_self
  · rw [setD_ne he]; exact h
theorem setD_false {D : Nat → Bool} {i j : Nat} (h : setD D j i = false) : i ≠ j ∧ D i = false := by
  by_cases he : i = j
  · subst he; rw [setD_self] at h; cases h
  · rw [setD_ne he] at h; exact ⟨he, h⟩

theorem closed_setD {D : Nat → Bool} {j : Nat} (hc : ∀ a i, D a = true → befD F.ops a i = true → D i = true) (hb : ∀ x, befD F.ops j x = true → D x = true) : ∀ a i, setD D j a = true → befD F.ops a i = true → setD D j i = true := by
  intro a i ha hi
  rcases setD_or ha with rfl | ha
  · exact setD_of (hb i hi)
  · exact setD_of (hc a i ha hi)

/-- the evaluator goes on over what is no act and is done -/
theorem Inv.advance (hT : tempOk F.ops (Region.before F.ops) = true) {D Dc : Nat → Bool} {rest : List Nat} {i : Nat} {o : Oper} {ls : List (Nat × Oper)} {t T : Tm} {W : AW} {h : List AW} {φ : Phi} {fr' : Frame} {w : World}
    (I : Inv F D Dc rest ((i, o) :: ls) t T W h φ fr' w) (hf : isEff o.op = false) (hD : D i = true) : ∃ t' W', Inv F D (setD Dc i) rest ls t' T W' h φ fr' w := by
  cases I.suf with
  | cons ho hn hb hl hsuf =>
  cases I.tr with
  | @cons _ _ _ _ _ _ W' _ _ hdst he htr =>
  rw [hf] at htr
  simp only [Bool.false_eq_true, if_false] at htr
  -- all but the world
  have fin : HRel φ W' w.heap → Goes F.A0.next F.φ0 F.A0 F.w0 φ W' w → F.base + F.ops.size ≤ W'.next → (∀ j ob, D j = true → Dc j = false → j ≠ i → F.alo j = some ob → ∀ R s l, φ (F.base + j) = some (R, s, l) → (∀ c o s' l', W.get c = some o → φ c ≠ some (R, s', l')) → ∀ c o s' l', W'.get c = some o → φ c ≠ some (R, s', l')) →
      Inv F D (setD Dc i) rest ls (put t o.dst (F.res i)) T W' h φ fr' w := by
    intro h1 h2 h3 h4
    refine ⟨hsuf, htr, ?_, ?_, I.cT, I.fr, h1, h2, h3, ?_, I.dlt, I.dcl, closed_setD I.ccl hb, fun x ox e1 e2 e3 => setD_of (I.acts x ox e1 e2 e3), ?_, ?_, I.free⟩
    · obtain ⟨ac, a1, a2⟩ := I.ac
      refine ⟨ac, a1, fun x ox e1 e2 e3 => ?_⟩
      rcases setD_or e3 with rfl | e3
      · rw [ho] at e1; cases e1; rw [hf] at e2; cases e2
      · exact a2 x ox e1 e2 e3
    · exact cur_put ho I.ct (names_writers hT ho hn I.ccl)
    · intro x hx
      rcases setD_or hx with rfl | hx
      · exact hD
      · exact I.sub x hx
    · intro j ob d1 d2 d3
      obtain ⟨hne, d2⟩ := setD_false d2
      obtain ⟨R, s, l, obj, p1, p2, p3, p4, p5⟩ := I.pend j ob d1 d2 d3
      exact ⟨R, s, l, obj, p1, p2, p3, p4, h4 j ob d1 d2 hne d3 R s l p1 p5⟩
    · intro a b R s l s' l' d1 d2 d3 d4
      exact I.inj a b R s l s' l' d1 (setD_false d2).2 d3 (setD_false d4).2
  cases he with
  | skip _ _ _ => exact ⟨_, _, fin I.hr I.go I.base fun j ob _ _ _ _ R s l _ hh => hh⟩
  | val _ _ _ _ => exact ⟨_, _, fin I.hr I.go I.base fun j ob _ _ _ _ R s l _ hh => hh⟩
  | rd _ _ _ _ _ => exact ⟨_, _, fin I.hr I.go I.base fun j ob _ _ _ _ R s l _ hh => hh⟩
  | act hf' _ _ _ => rw [hf] at hf'; cases hf'
  | @al ob v _ _ _ _ ha =>
    obtain ⟨R, s, l, obj, p1, p2, p3, p4, p5⟩ := I.pend i ob hD hn ha
    refine ⟨_, _, fin (I.hr.adopt p1 p3 p4 p5) (I.go.adopt p1 p2) (by rw [AW.next_set]; exact I.base) ?_⟩
    intro j ob' d1 d2 hne _ R' s' l' q1 q2 c oc s2 l2 hc
    rw [AW.get_set] at hc
    split at hc
    · rename_i hci
      subst hci
      intro he
      rw [p1] at he
      cases he
      exact hne (I.inj j i _ _ _ _ _ d1 d2 hD hn q1 p1)
    · exact q2 c oc s2 l2 hc

/-- over several -/
theorem Inv.advances (hT : tempOk F.ops (Region.before F.ops) = true) {D : Nat → Bool} {rest : List Nat} {T : Tm} {h : List AW} {φ : Phi} {fr' : Frame} {w : World} {l2 : List (Nat × Oper)} : ∀ (l1 : List (Nat × Oper)) {Dc : Nat → Bool} {t : Tm} {W : AW},
    Inv F D Dc rest (l1 ++ l2) t T W h φ fr' w → (∀ p ∈ l1, isEff p.2.op = false ∧ D p.1 = true) → ∃ Dc' t' W', Inv F D Dc' rest l2 t' T W' h φ fr' w
  | [], Dc, t, W, I, _ => ⟨Dc, t, W, I⟩
  | (i, o) :: l1, Dc, t, W, I, hp => by
    obtain ⟨t', W', I'⟩ := Inv.advance hT I (hp _ (List.mem_cons_self ..)).1 (hp _ (List.mem_cons_self ..)).2
    exact Inv.advances hT l1 I' fun p h => hp p (List.mem_cons_of_mem _ h)

/-- where the evaluator stands when it comes to an operation -/
theorem tr_split (hT : tempOk F.ops (Region.before F.ops) = true) {l2 : List (Nat × Oper)} {j : Nat} {o : Oper} : ∀ (l1 : List (Nat × Oper)) {Dc : Nat → Bool} {t : Tm} {W : AW} {h : List AW}, Suf F.ops Dc (l1 ++ (j, o) :: l2) →
    Tr F.P F.pr F.ops F.base F.hd.n F.n F.res F.alo (l1 ++ (j, o) :: l2) t W h F.tE F.AE → (∀ x, Tm.get t x = cur F.t0 F.ops F.res Dc x) → (∀ a i, Dc a = true → befD F.ops a i = true → Dc i = true) →
    ∃ Dj tj X X' more, dstOk F.hd.n o.dst = true ∧ Ent F.P F.pr F.ops F.base F.n F.res F.alo j o tj X (more ++ h) X' ∧ (∀ x, Tm.get tj x = cur F.t0 F.ops F.res Dj x) ∧ (∀ a i, Dj a = true → befD F.ops a i = true → Dj i = true) ∧
      Dj j = false ∧ (∀ x, befD F.ops j x = true → Dj x = true)
  | [], Dc, t, W, h, hs, ht, hc, hcl => by
    cases hs with
    | cons ho hn hb hl hsuf =>
    cases ht with
    | cons hdst he htr => exact ⟨Dc, t, W, _, [], hdst, he, hc, hcl, hn, hb⟩
  | (i, oi) :: l1, Dc, t, W, h, hs, ht, hc, hcl => by
    rw [List.cons_append] at hs ht
    cases hs with
    | cons ho hn hb hl hsuf =>
    cases ht with
    | @cons _ _ _ _ _ _ A' _ _ hdst he htr =>
    obtain ⟨Dj, tj, X, X', more, e1, e2, e3, e4, e5, e6⟩ := tr_split hT l1 hsuf htr (cur_put ho hc (names_writers hT ho hn hcl)) (closed_setD hcl hb)
    refine ⟨Dj, tj, X, X', if isEff oi.op then more ++ [A'] else more, e1, ?_, e3, e4, e5, e6⟩
    split at e2
    · rename_i hf; rw [if_pos hf]; simpa using e2
    · rename_i hf; rw [if_neg hf]; exact e2

/-- what an operation names has the same values at both -/
theorem names_eq (hT : tempOk F.ops (Region.before F.ops) = true) {D Dj : Nat → Bool} {T tj : Tm} {j : Nat} {o : Oper} (ho : F.ops[j]? = some o) (hT1 : ∀ x, Tm.get T x = cur F.t0 F.ops F.res D x) (hT2 : ∀ x, Tm.get tj x = cur F.t0 F.ops F.res Dj x)
    (hn : D j = false) (hb : ∀ x, befD F.ops j x = true → D x = true) (hc : ∀ a i, D a = true → befD F.ops a i = true → D i = true)
    (hn' : Dj j = false) (hb' : ∀ x, befD F.ops j x = true → Dj x = true) (hc' : ∀ a i, Dj a = true → befD F.ops a i = true → Dj i = true) :
    (∀ A, opRes F.P T A o.op = opRes F.P tj A o.op) ∧ wantedA F.ops T o.guard = wantedA F.ops tj o.guard := by
  have hx : ∀ x ∈ namesOf F.ops o, Tm.get T x = Tm.get tj x := fun x hx => by
    rw [hT1, hT2, cur_names hT ho hn hb hc hx, cur_names hT ho hn' hb' hc' hx]
  refine ⟨fun A => opRes_congr fun x hxo => opd_congr fun i hi => hx i ?_, ?_⟩
  · unfold namesOf
    subst hi
    simp only [List.mem_append, List.mem_filterMap]
    exact .inl (.inr ⟨.tmp i, by simpa using hxo, rfl⟩)
  · unfold wantedA
    cases hg : o.guard with
    | none => rfl
    | some g =>
      obtain ⟨g, b⟩ := g
      simp only
      cases hd : dstOf F.ops g with
      | none => rfl
      | some d =>
        simp only
        rw [hx d ?_]
        unfold namesOf
        rw [hg]
        simp only [List.mem_append]
        right
        unfold dstOf at hd
        cases hog : F.ops[g]? with
        | none => rw [hog] at hd; cases hd
        | some og => rw [hog] at hd; simp only at hd; simp [hd]

end
end Go.Ae

/- A region that draws, at both: the steps; the whole. -/
namespace Go.Ae
open Go
section
variable {F : Fix}

theorem evalRq_next (P : Program) (A B : AW) (h : A.heap = B.heap) (q : Rq) : evalRq P A q = evalRq P B q := by
  obtain ⟨a, n⟩ := A
  obtain ⟨b, m⟩ := B
  simp only at h
  subst h
  cases q <;> rfl

theorem agree_mem {P : Program} {q : Rq} {v : AV} : ∀ {l : List AW}, agree P q v l = true → ∀ A ∈ l, evalRq P A q = some v
  | [], _, A, h => by simp at h
  | B :: l, hg, A, h => by
    simp only [agree, Bool.and_eq_true] at hg
    rcases List.mem_cons.1 h with rfl | h
    · have := hg.1
      split at this
      · rename_i u hu; rw [hu, AV.beq_eq _ _ this]
      · cases this
    · exact agree_mem hg.2 A h

theorem took_eq {r : ARcv} {cs cs1 : List Frame} (h : Took r r cs cs1) : cs1 = cs := by
  generalize hr : r = r' at h
  revert hr
  rw [← Eq.symm (rfl : r = r)]
  intro hr
  cases h with
  | same => rfl

/-- behind one operation more -/
theorem Inv.after (hT : tempOk F.ops (Region.before F.ops) = true) {D Dc Dc2 : Nat → Bool} {j : Nat} {o : Oper} {r : List Nat} {ls ls2 : List (Nat × Oper)} {t t2 T : Tm} {W W1 : AW} {h h2 : List AW} {φ φ1 : Phi} {fr' fr1 : Frame} {w w1 : World}
    (I : Inv F D Dc (j :: r) ls t T W h φ fr' w) (ho : F.ops[j]? = some o) (hn : D j = false) (hb : ∀ x, befD F.ops j x = true → D x = true)
    (suf2 : Suf F.ops Dc2 ls2) (tr2 : Tr F.P F.pr F.ops F.base F.hd.n F.n F.res F.alo ls2 t2 W1 h2 F.tE F.AE)
    (ac2 : ∃ ac : List Nat, h2.length = ac.length + 1 ∧ ∀ i o, F.ops[i]? = some o → isEff o.op = true → Dc2 i = true → i ∈ ac) (ct2 : ∀ x, Tm.get t2 x = cur F.t0 F.ops F.res Dc2 x)
    (ccl2 : ∀ a i, Dc2 a = true → befD F.ops a i = true → Dc2 i = true) (sub2 : ∀ i, Dc2 i = true → setD D j i = true) (acts2 : ∀ i o, F.ops[i]? = some o → isEff o.op = true → setD D j i = true → Dc2 i = true)
    (hnew : ∀ i, Dc2 i = false → Dc i = false) (hal : F.alo j = none)
    (f1 : FRel F.P φ1 ⟨F.hd, put T o.dst (F.res j), .inReg F.ops (numbered F.ops r) :: F.k, ⟨F.ds, F.rc, []⟩, .run⟩ fr1 F.cs) (H1 : HRel φ1 W1 w1.heap) (G1 : Goes W.next φ W w φ1 W1 w1) :
    Inv F (setD D j) Dc2 r ls2 t2 (put T o.dst (F.res j)) W1 h2 φ1 fr1 w1 := by
  obtain ⟨k1, k2⟩ := G1.keeps (F := F) I.base
  have hjl : j < F.ops.size := (Array.getElem?_eq_some_iff.1 ho).1
  have hA0 := I.go.next
  refine ⟨suf2, tr2, ac2, ct2, cur_put ho I.cT (names_writers hT ho hn I.dcl), f1, H1, I.go.trans (G1.weaken hA0), Nat.le_trans I.base G1.next, sub2, ?_, closed_setD I.dcl hb, ccl2, acts2, ?_, ?_, ?_⟩
  · intro i hi
    rcases setD_or hi with rfl | hi
    · exact hjl
    · exact I.dlt i hi
  · intro i ob d1 d2 d3
    rcases setD_or d1 with rfl | d1
    · rw [hal] at d3; cases d3
    · obtain ⟨R, s, l, obj, p1, p2, p3, p4, p5⟩ := I.pend i ob d1 (hnew i d2) d3
      have hR := (I.hr.dom _ _ _ _ p1).2
      obtain ⟨q1, q2⟩ := k2 R hR p5
      exact ⟨R, s, l, obj, G1.le _ _ p1, p2, by rw [q1]; exact p3, p4.mono G1.le, q2⟩
  · intro a b R s l s' l' d1 d2 d3 d4 e1 e2
    have ne : ∀ x R s l, φ1 (F.base + x) = some (R, s, l) → setD D j x = true → D x = true := by
      intro x R s l he hx
      rcases setD_or hx with rfl | hx
      · rw [k1 _ hjl, I.free _ hjl hn] at he; cases he
      · exact hx
    have da := ne a _ _ _ e1 d1
    have db := ne b _ _ _ e2 d3
    rw [k1 _ (I.dlt a da)] at e1
    rw [k1 _ (I.dlt b db)] at e2
    exact I.inj a b R s l s' l' da (hnew a d2) db (hnew b d4) e1 e2
  · intro i hi hd
    rw [k1 i hi]
    exact I.free i hi (setD_false hd).2

/-- what the whole rests on -/
structure Rests (F : Fix) : Prop where
  hN : NoNum F.P
  hP : PrimsOk F.P F.pr
  hX : ExtsOk F.P
  hS : ∀ m, m < F.n → Sim F.P F.pr m
  hT : tempOk F.ops (Region.before F.ops) = true
  tot : ∀ i j oi oj, F.ops[i]? = some oi → F.ops[j]? = some oj → isEff oi.op = true → isEff oj.op = true → i < j → befD F.ops j i = true
  glob : GlobOk F.P F.φ0
  base : F.A0.next ≤ F.base

theorem Inv.float_step (E : Rests F) {D Dc : Nat → Bool} {j : Nat} {o : Oper} {r : List Nat} {ls : List (Nat × Oper)} {t T : Tm} {W : AW} {h : List AW} {φ : Phi} {fr' : Frame} {w : World}
    (I : Inv F D Dc (j :: r) ls t T W h φ fr' w) (hh : ∃ a hl, h = a :: hl ∧ a.heap = W.heap) (ho : F.ops[j]? = some o) (hf : isEff o.op = false) (hn : D j = false) (hb : ∀ x, befD F.ops j x = true → D x = true) :
    ∃ T' φ1 fr1 w1, Steps F.P (lone fr' F.cs w) (lone fr1 F.cs w1) ∧ Inv F (setD D j) Dc r ls t T' W h φ1 fr1 w1 := by
  have hjl : j < F.ops.size := (Array.getElem?_eq_some_iff.1 ho).1
  have hDc : Dc j = false := by
    cases hd : Dc j with
    | false => rfl
    | true => have := I.sub j hd; rw [hn] at this; cases this
  obtain ⟨o', hmem⟩ := I.suf.all j hjl hDc
  have ho' := (I.suf.undone _ hmem).2
  simp only at ho'
  rw [ho] at ho'
  cases ho'
  obtain ⟨l1, l2, hls⟩ := List.append_of_mem hmem
  have hsuf := I.suf
  have htr := I.tr
  rw [hls] at hsuf htr
  obtain ⟨Dj, tj, X, X', more, hdst, he, e3, e4, e5, e6⟩ := tr_split E.hT l1 hsuf htr I.ct I.ccl
  obtain ⟨n1, n2⟩ := names_eq E.hT ho I.cT e3 hn hb I.dcl e5 e6 e4
  have hfr := I.fr
  rw [numbered_cons ho] at hfr
  have hG := E.glob.mono I.go.le
  have sub2 : ∀ i, Dc i = true → setD D j i = true := fun i hi => setD_of (I.sub i hi)
  have acts2 : ∀ i o, F.ops[i]? = some o → isEff o.op = true → setD D j i = true → Dc i = true := by
    intro i oi h1 h2 h3
    rcases setD_or h3 with rfl | h3
    · rw [ho] at h1; cases h1; rw [hf] at h2; cases h2
    · exact I.acts i oi h1 h2 h3
  -- no block
  have plain : F.alo j = none → ((wantedA F.ops T o.guard = some false ∧ F.res j = .undef ∧ W = W) ∨ (wantedA F.ops T o.guard = some true ∧ ActA F.P F.pr F.n W (opRes F.P T W o.op) (F.res j) W)) →
      ∃ T' φ1 fr1 w1, Steps F.P (lone fr' F.cs w) (lone fr1 F.cs w1) ∧ Inv F (setD D j) Dc r ls t T' W h φ1 fr1 w1 := by
    intro ha hent
    obtain ⟨φ1, fr1, cs1, w1, g1, g2, g3, g4, g5, g6, g7⟩ := ent_go E.hN E.hP E.hX E.hS hfr I.hr hG hdst hent
    have hcs := took_eq g5
    subst hcs
    exact ⟨_, φ1, fr1, w1, g1, I.after E.hT ho hn hb I.suf I.tr I.ac I.ct I.ccl sub2 acts2 (fun i hi => hi) ha g2 g3 g4⟩
  cases he with
  | skip hw hr ha => exact plain ha (.inl ⟨by rw [n2]; exact hw, hr, rfl⟩)
  | val _ hw hv ha => exact plain ha (.inr ⟨by rw [n2]; exact hw, by rw [n1, (opRes_calm hf).2 X, hv]; exact .val _⟩)
  | @rd q _ hw hq hg ha =>
    obtain ⟨a, hl, rfl, hah⟩ := hh
    obtain ⟨ac, c1, c2⟩ := I.ac
    have hlen : ahead F.ops j ≤ ac.length := by
      refine nodup_length (bitsUnder_nodup _ _) fun x hx => ?_
      obtain ⟨x1, x2⟩ := (bitsUnder_mem _ _ _).1 hx
      rw [Nat.testBit_and, Bool.and_eq_true] at x2
      obtain ⟨ox, y1, y2⟩ := (effMask_bit F.ops x).1 x2.1
      exact c2 x ox y1 y2 (I.acts x ox y1 y2 (hb x x2.2))
    simp only [List.length_cons] at c1
    have hin : a ∈ (more ++ a :: hl).take ((more ++ a :: hl).length - ahead F.ops j) := by
      rw [List.mem_take_iff_getElem]
      refine ⟨more.length, by simp only [List.length_append, List.length_cons]; omega, ?_⟩
      simp
    have hq1 := agree_mem hg a hin
    rw [evalRq_next F.P a W hah] at hq1
    exact plain ha (.inr ⟨by rw [n2]; exact hw, by rw [n1, (opRes_calm hf).2 X, hq]; exact .rd hq1⟩)
  | act hf' _ _ _ => rw [hf] at hf'; cases hf'
  | @al ob v _ hw hq hr ha =>
    have hbl : F.base + j < W.next := by have := I.base; omega
    obtain ⟨fr1, s, l, obj, w', g1, g2, g3, g4, g5, g6⟩ := ent_al hfr I.hr hG hdst (by rw [n2]; exact hw) hf (by rw [n1, (opRes_calm hf).2 X]; exact hq) (I.free j hjl hn) hbl
    rw [← hr] at g2
    have hlow : F.A0.next ≤ F.base + j := Nat.le_trans E.base (Nat.le_add_right _ _)
    have hput : ∀ i, i ≠ j → (φ.put (F.base + j) (w.heap.size, s, l)) (F.base + i) = φ (F.base + i) := fun i hi => Phi.put_other _ _ _ (by omega)
    have hsame := Phi.put_same φ (F.base + j) (w.heap.size, s, l)
    have hnoW : ∀ c oc, W.get c = some oc → c ≠ F.base + j := by
      intro c oc hc he
      subst he
      obtain ⟨R, s', l', obj', q1, _⟩ := I.hr.con _ _ hc
      rw [I.free j hjl hn] at q1; cases q1
    refine ⟨_, _, fr1, w', g1, I.suf, I.tr, I.ac, I.ct, cur_put ho I.cT (names_writers E.hT ho hn I.dcl), g2, g3, I.go.trans (g4.weaken hlow), I.base, sub2, ?_, closed_setD I.dcl hb, I.ccl, acts2, ?_, ?_, ?_⟩
    · intro i hi
      rcases setD_or hi with rfl | hi
      · exact hjl
      · exact I.dlt i hi
    · intro i ob' d1 d2 d3
      by_cases hij : i = j
      · subst hij
        rw [ha] at d3
        cases d3
        refine ⟨w.heap.size, s, l, obj, hsame, I.go.size, by rw [g5]; simp, g6, fun c oc s' l' hc hφ => ?_⟩
        rw [Phi.put_other _ _ _ (hnoW c oc hc)] at hφ
        have := (I.hr.dom _ _ _ _ hφ).2
        omega
      · have d1' : D i = true := (setD_or d1).resolve_left hij
        obtain ⟨R, s1, l1, obj1, p1, p2, p3, p4, p5⟩ := I.pend i ob' d1' d2 d3
        have hR := (I.hr.dom _ _ _ _ p1).2
        refine ⟨R, s1, l1, obj1, by rw [hput i hij]; exact p1, p2, ?_, p4.mono g4.le, fun c oc s' l' hc hφ => ?_⟩
        · rw [g5, Array.getElem?_push, if_neg (by omega)]; exact p3
        · rw [Phi.put_other _ _ _ (hnoW c oc hc)] at hφ
          exact p5 c oc s' l' hc hφ
    · intro a b R s1 l1 s2 l2 d1 d2 d3 d4 q1 q2
      by_cases haj : a = j
      · by_cases hbj : b = j
        · rw [haj, hbj]
        · exfalso
          subst haj
          rw [hsame] at q1
          rw [hput b hbj] at q2
          cases q1
          have := (I.hr.dom _ _ _ _ q2).2
          omega
      · by_cases hbj : b = j
        · exfalso
          subst hbj
          rw [hsame] at q2
          rw [hput a haj] at q1
          cases q2
          have := (I.hr.dom _ _ _ _ q1).2
          omega
        · rw [hput a haj] at q1
          rw [hput b hbj] at q2
          exact I.inj a b R s1 l1 s2 l2 ((setD_or d1).resolve_left haj) d2 ((setD_or d3).resolve_left hbj) d4 q1 q2
    · intro i hi hd
      obtain ⟨h1, h2⟩ := setD_false hd
      rw [hput i h1]
      exact I.free i hi h2

end
end Go.Ae

/- A region that draws, at both: acts; the whole region; DrawOk. -/
namespace Go.Ae
open Go
section
variable {F : Fix}

/-- nothing that stands ahead of an operation needs it -/
theorem Suf.ahead {j : Nat} {o : Oper} {l2 : List (Nat × Oper)} : ∀ (l1 : List (Nat × Oper)) {D : Nat → Bool}, Suf F.ops D (l1 ++ (j, o) :: l2) → ∀ p ∈ l1, befD F.ops p.1 j = false
  | [], _, _, p, hp => by simp at hp
  | (i, oi) :: l1, D, h, p, hp => by
    rw [List.cons_append] at h
    have hu := (h.undone (j, o) (by simp)).1
    cases h with
    | cons ho hn hb hl hsuf =>
      rcases List.mem_cons.1 hp with rfl | hp
      · cases hx : befD F.ops i j with
        | false => rfl
        | true => have := hb j hx; simp only at hu; rw [hu] at this; cases this
      · exact Suf.ahead l1 hsuf p hp

/-- what is no act and stands right ahead of an act is what the act needs -/
theorem Suf.late {j : Nat} {o : Oper} {l2 : List (Nat × Oper)} (he : isEff o.op = true) : ∀ (l1 : List (Nat × Oper)) {D : Nat → Bool}, Suf F.ops D (l1 ++ (j, o) :: l2) → (∀ p ∈ l1, isEff p.2.op = false) → ∀ p ∈ l1, befD F.ops j p.1 = true
  | [], _, _, _, p, hp => by simp at hp
  | (i, oi) :: l1, D, h, hf, p, hp => by
    rw [List.cons_append] at h
    cases h with
    | cons ho hn hb hl hsuf =>
      rcases List.mem_cons.1 hp with rfl | hp
      · rcases hl with hl | hl
        · have := hf _ (List.mem_cons_self ..); rw [hl] at this; cases this
        · exact hl l1 j o l2 rfl (fun q hq => hf q (List.mem_cons_of_mem _ hq)) he
      · exact Suf.late he l1 hsuf (fun q hq => hf q (List.mem_cons_of_mem _ hq)) p hp

theorem Inv.act_step (E : Rests F) {D Dc : Nat → Bool} {j : Nat} {o : Oper} {r : List Nat} {ls : List (Nat × Oper)} {t T : Tm} {W : AW} {h : List AW} {φ : Phi} {fr' : Frame} {w : World}
    (I : Inv F D Dc (j :: r) ls t T W h φ fr' w) (ho : F.ops[j]? = some o) (hf : isEff o.op = true) (hn : D j = false) (hb : ∀ x, befD F.ops j x = true → D x = true) :
    ∃ Dc' ls' t' T' W' h' φ1 fr1 w1, Steps F.P (lone fr' F.cs w) (lone fr1 F.cs w1) ∧ Inv F (setD D j) Dc' r ls' t' T' W' h' φ1 fr1 w1 ∧ ∃ a hl, h' = a :: hl ∧ a.heap = W'.heap := by
  have hjl : j < F.ops.size := (Array.getElem?_eq_some_iff.1 ho).1
  have hDc : Dc j = false := by
    cases hd : Dc j with
    | false => rfl
    | true => have := I.sub j hd; rw [hn] at this; cases this
  obtain ⟨o', hmem⟩ := I.suf.all j hjl hDc
  have ho' := (I.suf.undone _ hmem).2
  simp only at ho'
  rw [ho] at ho'
  cases ho'
  obtain ⟨l1, l2, hls⟩ := List.append_of_mem hmem
  subst hls
  have hsuf := I.suf
  have hfl : ∀ p ∈ l1, isEff p.2.op = false := by
    intro p hp
    cases hpe : isEff p.2.op with
    | false => rfl
    | true =>
      exfalso
      obtain ⟨u1, u2⟩ := hsuf.undone p (by simp [hp])
      have hbj := Suf.ahead l1 hsuf p hp
      have hne : p.1 ≠ j := by
        intro he
        have hnd := hsuf.nodup
        rw [List.map_append, List.map_cons, List.nodup_append] at hnd
        exact hnd.2.2 p.1 (List.mem_map_of_mem (f := (·.1)) hp) j (List.mem_cons_self ..) he
      rcases Nat.lt_or_ge p.1 j with hlt | hge
      · have := E.tot p.1 j p.2 o u2 ho hpe hf hlt
        have := I.acts p.1 p.2 u2 hpe (hb _ this)
        rw [u1] at this; cases this
      · have := E.tot j p.1 o p.2 ho u2 hf hpe (by omega)
        rw [hbj] at this; cases this
  have hlate := Suf.late hf l1 hsuf hfl
  obtain ⟨Dc', t', W', I'⟩ := Inv.advances E.hT l1 I fun p hp => ⟨hfl p hp, hb _ (hlate p hp)⟩
  cases I'.suf with
  | cons ho2 hn2 hb2 hl2 hsuf2 =>
  have htr' := I'.tr
  cases htr' with
  | @cons _ _ _ _ _ _ A' _ _ hdst he htr =>
  rw [hf] at htr
  simp only [if_true] at htr
  obtain ⟨n1, n2⟩ := names_eq E.hT ho I'.cT I'.ct hn hb I'.dcl hn2 hb2 I'.ccl
  have hfr := I'.fr
  rw [numbered_cons ho] at hfr
  have hG := E.glob.mono I'.go.le
  have fin : F.alo j = none → ((wantedA F.ops T o.guard = some false ∧ F.res j = .undef ∧ A' = W') ∨ (wantedA F.ops T o.guard = some true ∧ ActA F.P F.pr F.n W' (opRes F.P T W' o.op) (F.res j) A')) →
      ∃ Dc' ls' t' T' W' h' φ1 fr1 w1, Steps F.P (lone fr' F.cs w) (lone fr1 F.cs w1) ∧ Inv F (setD D j) Dc' r ls' t' T' W' h' φ1 fr1 w1 ∧ ∃ a hl, h' = a :: hl ∧ a.heap = W'.heap := by
    intro ha hent
    obtain ⟨φ1, fr1, cs1, w1, g1, g2, g3, g4, g5, g6, g7⟩ := ent_go E.hN E.hP E.hX E.hS hfr I'.hr hG hdst hent
    have hcs := took_eq g5
    subst hcs
    obtain ⟨ac, c1, c2⟩ := I'.ac
    refine ⟨_, _, _, _, _, _, φ1, fr1, w1, g1, I'.after E.hT ho hn hb hsuf2 htr ⟨j :: ac, by simp [c1], fun i oi x1 x2 x3 => ?_⟩ (cur_put ho I'.ct (names_writers E.hT ho hn2 I'.ccl)) (closed_setD I'.ccl hb2) ?_ ?_ (fun i hi => (setD_false hi).2) ha g2 g3 g4, A', h, rfl, rfl⟩
    · rcases setD_or x3 with rfl | x3
      · exact List.mem_cons_self ..
      · exact List.mem_cons_of_mem _ (c2 i oi x1 x2 x3)
    · intro i hi
      rcases setD_or hi with rfl | hi
      · exact setD_self
      · exact setD_of (I'.sub i hi)
    · intro i oi x1 x2 x3
      rcases setD_or x3 with rfl | x3
      · exact setD_self
      · exact setD_of (I'.acts i oi x1 x2 x3)
  cases he with
  | skip hw hr ha => exact fin ha (.inl ⟨by rw [n2]; exact hw, hr, rfl⟩)
  | val hf' _ _ _ => rw [hf] at hf'; cases hf'
  | rd hf' _ _ _ _ => rw [hf] at hf'; cases hf'
  | al hf' _ _ _ _ => rw [hf] at hf'; cases hf'
  | act _ hw hq ha => exact fin ha (.inr ⟨by rw [n2]; exact hw, by rw [n1]; exact hq⟩)

/-- the whole of a region -/
theorem Inv.run (E : Rests F) : ∀ (rest : List Nat) {D Dc : Nat → Bool} {ls : List (Nat × Oper)} {t T : Tm} {W : AW} {h : List AW} {φ : Phi} {fr' : Frame} {w : World},
    Ord F.ops D rest → Inv F D Dc rest ls t T W h φ fr' w → (∃ a hl, h = a :: hl ∧ a.heap = W.heap) →
    ∃ T' φ1 fr1 w1, Steps F.P (lone fr' F.cs w) (lone fr1 F.cs w1) ∧ FRel F.P φ1 ⟨F.hd, T', .inReg F.ops [] :: F.k, ⟨F.ds, F.rc, []⟩, .run⟩ fr1 F.cs ∧ HRel φ1 F.AE w1.heap ∧ Goes F.A0.next F.φ0 F.A0 F.w0 φ1 F.AE w1 ∧ ∀ x, Tm.get T' x = Tm.get F.tE x
  | [], D, Dc, ls, t, T, W, h, φ, fr', w, hO, I, hh => by
    cases hO with
    | nil hall =>
    have hfl : ∀ p ∈ ls, isEff p.2.op = false ∧ D p.1 = true := by
      intro p hp
      obtain ⟨u1, u2⟩ := I.suf.undone p hp
      have hD := hall p.1 (Array.getElem?_eq_some_iff.1 u2).1
      refine ⟨?_, hD⟩
      cases hpe : isEff p.2.op with
      | false => rfl
      | true => have := I.acts p.1 p.2 u2 hpe hD; rw [u1] at this; cases this
    obtain ⟨Dc', t', W', I'⟩ := Inv.advances (l2 := []) E.hT ls (by rw [List.append_nil]; exact I) hfl
    have hsuf := I'.suf
    cases hsuf with
    | nil hall' =>
    have key : ∀ {ls : List (Nat × Oper)} {W h tE AE}, Tr F.P F.pr F.ops F.base F.hd.n F.n F.res F.alo ls t' W h tE AE → ls = [] → t' = tE ∧ W = AE := by
      intro ls W h tE AE htr hls
      cases htr with
      | nil => exact ⟨rfl, rfl⟩
      | cons => cases hls
    obtain ⟨k1, k2⟩ := key I'.tr rfl
    refine ⟨T, φ, fr', w, .refl _ _, I'.fr, by rw [← k2]; exact I'.hr, by rw [← k2]; exact I'.go, fun x => ?_⟩
    rw [← k1, I'.cT, I'.ct]
    unfold cur
    rw [lastW_congr]
    intro i hi _
    rw [hall i hi, hall' i hi]
  | j :: r, D, Dc, ls, t, T, W, h, φ, fr', w, hO, I, hh => by
    cases hO with
    | cons hj hn hb hr =>
    have ho : F.ops[j]? = some F.ops[j] := Array.getElem?_eq_getElem hj
    cases hf : isEff (F.ops[j]).op with
    | false =>
      obtain ⟨T', φ1, fr1, w1, g1, I1⟩ := I.float_step E hh ho hf hn hb
      obtain ⟨T'', φ2, fr2, w2, e1, e2⟩ := Inv.run E r hr I1 hh
      exact ⟨T'', φ2, fr2, w2, g1.trans e1, e2⟩
    | true =>
      obtain ⟨Dc', ls', t', T', W', h', φ1, fr1, w1, g1, I1, hh'⟩ := I.act_step E ho hf hn hb
      obtain ⟨T'', φ2, fr2, w2, e1, e2⟩ := Inv.run E r hr I1 hh'
      exact ⟨T'', φ2, fr2, w2, g1.trans e1, e2⟩

end

theorem numbered_irel {ops : Array Oper} {φ : Phi} {l : List Nat} (h : ∀ i ∈ l, i < ops.size) : IRel φ (.inReg ops (numbered ops l)) (.inRegion ops l) := by
  refine .inReg ?_
  induction l with
  | nil => exact .nil
  | cons i l ih =>
    have hi := h i (List.mem_cons_self ..)
    rw [numbered_cons (Array.getElem?_eq_getElem hi)]
    exact .cons ⟨rfl, Array.getElem?_eq_getElem hi⟩ (ih fun x hx => h x (List.mem_cons_of_mem _ hx))

theorem TRel.ext {φ : Phi} {n : Nat} {t t' : Tm} {a : Array Value} (h : TRel φ n t a) (he : ∀ x, Tm.get t x = Tm.get t' x) : TRel φ n t' a := ⟨h.1, fun i => by rw [← he]; exact h.2 i⟩

/-- REGIONS THAT DRAW -/
theorem draws (P : Program) (pr : Prims) (hm : P.follows .mixedOrders = true) (hN : NoNum P) (hP : PrimsOk P pr) (hX : ExtsOk P) : DrawOk P pr := by
  intro n hS fr A r A' hd hr φ fr' cs w h H hG hz
  obtain ⟨hd', tm, todo, st, mode⟩ := fr
  unfold atDraw at hd
  cases mode with
  | returning => cases hd
  | panicking c => cases hd
  | run =>
  cases todo with
  | nil => cases hd
  | cons it k =>
  cases it <;> try (cases hd; done)
  rename_i c
  cases c <;> try (cases hd; done)
  rename_i id ops dr
  cases dr with
  | false => cases hd
  | true =>
  obtain ⟨ds, rc, hist⟩ := st
  simp only at hz
  subst hz
  cases n with
  | zero => cases hr
  | succ n =>
  rw [run_succ] at hr
  change runK (Ae.run P pr n) (match drawn ops with
      | some l => .go ⟨hd', tm, .inReg ops l :: k, ⟨ds, rc, [A]⟩, .run⟩ (A.reserve ops.size)
      | none => .bad) = some (r, A') at hr
  cases hdr : drawn ops with
  | none => rw [hdr] at hr; cases hr
  | some l =>
  rw [hdr] at hr
  simp only [runK] at hr
  unfold drawn at hdr
  cases hok : drawOk ops (sigma ops) with
  | false => rw [hok] at hdr; cases hdr
  | true =>
  rw [hok] at hdr
  simp only [cond_true, Option.some.injEq] at hdr
  subst hdr
  obtain ⟨hT, hlt, hsuf, htot⟩ := drawOk_spec hok
  obtain ⟨res, alo, tE, AE, m, hmn, htr, hrE⟩ := run_trace (base := A.next) (k := k) (ds := ds) (rc := rc) _ hsuf.nodup n tm (A.reserve ops.size) [A] (by simp) rfl hr
  have hmode := mode_run h rfl
  obtain ⟨it', k', ht, hi, hk⟩ := todo_cons (h.todo rfl)
  cases hi
  let F : Fix := ⟨P, pr, ops, A.next, n, hd', k, ds, rc, cs, res, alo, φ, A, w, tm, tE, AE⟩
  have E : Rests F := ⟨hN, hP, hX, fun m hm => hS m (by show m < n + 1; have : m < n := hm; omega), hT, htot, hG, Nat.le_refl _⟩
  let tp := w.tape w.drawn (.order fr'.fn id)
  let w0 : World := { w with drawn := w.drawn + 1 }
  have hO : Ord ops (fun _ => false) (Region.schedule true ops tp) := ord_schedule hsuf tp
  have hHr : HRel φ (A.reserve ops.size) w0.heap := by
    refine ⟨fun b o hb => ?_, fun b R s l hb => ?_, fun b o hb => ?_, fun b b' o o' R s l s' l' hne hb hb' => ?_⟩
    · rw [AW.get_reserve] at hb; rw [AW.next_reserve]; have := H.low b o hb; omega
    · rw [AW.next_reserve]; obtain ⟨h1, h2⟩ := H.dom b R s l hb; exact ⟨by omega, h2⟩
    · rw [AW.get_reserve] at hb; exact H.con b o hb
    · rw [AW.get_reserve] at hb hb'; exact H.sep b b' o o' R s l s' l' hne hb hb'
  have hGo : Goes A.next φ A w φ (A.reserve ops.size) w0 :=
    ⟨Phi.le_refl _, by rw [AW.next_reserve]; omega, Nat.le_refl _, fun _ _ _ => rfl, fun b o R s l e1 e2 e3 _ => ⟨b, o, s, l, by rw [AW.get_reserve] at e1; exact e1, e2, e3⟩,
      fun b o R s l e1 e2 _ => ⟨b, o, s, l, by rw [AW.get_reserve] at e1; exact e1, e2⟩, fun b R s l e n => (by rw [e] at n; cases n), rfl, rfl, rfl⟩
  have hfr : FRel P φ ⟨hd', tm, .inReg ops (numbered ops (Region.schedule true ops tp)) :: k, ⟨ds, rc, []⟩, .run⟩ { fr' with todo := .inRegion ops (Region.schedule true ops tp) :: k' } cs :=
    frel_todo h (.cons (numbered_irel hO.lt) hk) rfl rfl
  have hcur : ∀ x, Tm.get tm x = cur tm ops res (fun _ => false) x := by
    intro x
    unfold cur
    have : ∀ n, lastW ops (fun _ => false) x n = none := by
      intro n
      induction n with
      | zero => rfl
      | succ n ih => simp [lastW, ih]
    rw [this]
  have I : Inv F (fun _ => false) (fun _ => false) (Region.schedule true ops tp) (numbered ops (sigma ops)) tm tm (A.reserve ops.size) [A] φ { fr' with todo := .inRegion ops (Region.schedule true ops tp) :: k' } w0 := by
    refine ⟨hsuf, htr, ⟨[], rfl, fun i o _ _ hx => (by cases hx)⟩, hcur, hcur, hfr, hHr, hGo, ?_, fun i hx => hx, fun i hx => (by cases hx), fun a i hx => (by cases hx), fun a i hx => (by cases hx), fun i o _ _ hx => (by cases hx), fun i ob hx => (by cases hx), fun i j R s l s' l' hx => (by cases hx), ?_⟩
    · rw [AW.next_reserve]; exact Nat.le_refl _
    · intro i hi _
      show φ (A.next + i) = none
      cases hφ : φ (A.next + i) with
      | none => rfl
      | some x => obtain ⟨R, s, l⟩ := x; have := (H.dom _ _ _ _ hφ).1; omega
  obtain ⟨T', φ1, fr1, w1, g1, g2, g3, g4, g5⟩ := Inv.run E _ hO I ⟨A, [], rfl, by cases A; rfl⟩
  have hmode1 := mode_run g2 rfl
  obtain ⟨it1, k1, ht1, hi1, hk1⟩ := todo_cons (g2.todo rfl)
  cases hi1 with
  | inReg hl1 =>
  cases hl1
  refine ⟨m, ⟨hd', tE, k, ⟨ds, rc, []⟩, .run⟩, AE, by omega, hrE, φ1, { fr1 with todo := k1 }, cs, w1, ?_, ?_, g3, g4, .same _ _, rfl, rfl⟩
  · refine .head ?_ (g1.trans (.one ?_))
    · exact step_lone_go (by
        simp [Go.stepG, Go.stepG.exec, hmode, ht, choose, Sem.run, Question.forced, Question.cut, hm]; exact ⟨⟨rfl, rfl⟩, rfl⟩)
    · exact step_lone_go (by simp [Go.stepG, Go.stepG.exec, hmode1, ht1]; rfl)
  · have := frel_todo (st := ⟨ds, rc, []⟩) g2 hk1 rfl rfl
    exact ⟨this.fn, this.tmps.ext g5, this.todo, this.defers, this.mode, this.kind, this.round, this.rcv, this.known, this.plain⟩

end Go.Ae

/- Functions without a body: the small ones. -/
namespace Go.Ae
open Go
section
variable {P : Program} {φ : Phi} {A : AW}

theorem countByte_ok (c : Nat) (hc : c < 256) : ∀ (l : List UInt8) (n : Nat), countByte c (l.map UInt8.toNat) n = n + Lib.countByte l c.toUInt8
  | [], n => by simp [countByte, Lib.countByte]
  | b :: l, n => by
    simp only [List.map_cons, countByte]
    rw [countByte_ok c hc l]
    unfold Lib.countByte
    rw [List.count_cons]
    cases hb : Nat.beq b.toNat c with
    | true =>
      have hbc : b.toNat = c := Nat.eq_of_beq_eq_true hb
      have : (b == c.toUInt8) = true := by
        rw [beq_iff_eq]
        apply UInt8.toNat_inj.1
        rw [hbc]; simp; omega
      rw [this]; simp; omega
    | false =>
      have hbc : b.toNat ≠ c := Nat.ne_of_beq_eq_false hb
      have : (b == c.toUInt8) = false := by
        rw [beq_eq_false_iff_ne]
        intro he
        apply hbc
        rw [he]; simp; omega
      rw [this]; simp

theorem findByte_ok (c : Nat) (hc : c < 256) : ∀ (l : List UInt8) (i : Nat), findByte c (l.map UInt8.toNat) i = if Lib.indexByte l c.toUInt8 = -1 then -1 else Lib.indexByte l c.toUInt8 + i
  | [], i => by simp [findByte, Lib.indexByte]
  | b :: l, i => by
    simp only [List.map_cons, findByte]
    cases hb : Nat.beq b.toNat c with
    | true =>
      have hbc : b.toNat = c := Nat.eq_of_beq_eq_true hb
      have : (b == c.toUInt8) = true := by
        rw [beq_iff_eq]
        apply UInt8.toNat_inj.1
        rw [hbc]; simp; omega
      have e : Lib.indexByte (b :: l) c.toUInt8 = 0 := by unfold Lib.indexByte; rw [if_pos this]
      rw [e]; simp
    | false =>
      have hbc : b.toNat ≠ c := Nat.ne_of_beq_eq_false hb
      have : (b == c.toUInt8) = false := by
        rw [beq_eq_false_iff_ne]
        intro he
        apply hbc
        rw [he]; simp; omega
      have e : Lib.indexByte (b :: l) c.toUInt8 = if Lib.indexByte l c.toUInt8 == -1 then -1 else Lib.indexByte l c.toUInt8 + 1 := by
        rw [Lib.indexByte, this]; rfl
      simp only [cond_false]
      rw [e, findByte_ok c hc l]
      have hge := Lib.indexByte_ge l c.toUInt8
      by_cases h1 : Lib.indexByte l c.toUInt8 = -1
      · simp [h1]
      · have h2 : (Lib.indexByte l c.toUInt8 == -1) = false := by rw [beq_eq_false_iff_ne]; exact h1
        simp only [h1, h2, Bool.false_eq_true, if_false]
        rw [if_neg (by omega)]
        simp only [Nat.succ_eq_add_one]
        omega

/-- the row of a function without a body, of its own name -/
theorem run_ext {f : FuncId} {fn : Func} {e : Array Value → Sem Value} (hf : P.funcs[f]? = some fn) (hb : fn.body = none) (hname : (fn.name == "runtime.NumGoroutine") = false)
    (hn : Extern.findNext fn = none) (he : Extern.find fn = some e) (args : Array Value) (w : World) :
    (callFunc f args).run P w = ((e args).run P w).andThen fun v w' => .ok (.value v) w' :=
  run_callFunc_extern hf hname (by rw [hb]; rfl) hn he args w

theorem findNext_of {fn : Func} {n : String} (h1 : fn.name = n) (h2 : fn.origin = "") (h : Extern.allNextRows.lookup n = none) : Extern.findNext fn = none := by
  have h0 : Extern.allNextRows.lookup "" = none := by kernel_rfl
  simp only [Extern.findNext, h1, h2, h, h0]; rfl

theorem find_rows {fn : Func} {n : String} {e : Array Value → Sem Value} (h1 : fn.name = n) (hg : Extern.allGenericRows.lookup n = none) (ht : Extern.allTypedRows.lookup n = none) (hr : Extern.allRows.lookup n = some e) : Extern.find fn = some e := by
  simp only [Extern.find, h1, hg, ht, hr]; rfl
theorem find_typed {fn : Func} {n : String} {e : Extern.Typed} (h1 : fn.name = n) (hg : Extern.allGenericRows.lookup n = none) (ht : Extern.allTypedRows.lookup n = some e) : Extern.find fn = some (e fn.params fn.resultTypes) := by
  simp only [Extern.find, h1, hg, ht]; rfl

/-- what is answered without a change -/
theorem OpOk.same {f : FuncId} {args : Array Value} {v : AV} {u : Value} (hv : VRel φ v u) (h : ∀ w, HRel φ A w.heap → (callFunc f args).run P w = .ok (.value u) w) : OpOk P φ A (callFunc f args) (.ef v A) :=
  fun w H => ⟨φ, _, u, w, h w H, .inl rfl, H, hv, Goes.refl _ _ _ _⟩

section
variable {f : FuncId} {fn : Func} {args : List AV} {args' : Array Value} {v : AV} {A' : AW}

theorem vrels_one {x : AV} (h : VRels φ [x] args'.toList) : ∃ x', args' = #[x'] ∧ VRel φ x x' := by
  obtain ⟨l⟩ := args'
  cases h with
  | cons h t => cases t; exact ⟨_, rfl, h⟩
theorem vrels_two {x y : AV} (h : VRels φ [x, y] args'.toList) : ∃ x' y', args' = #[x', y'] ∧ VRel φ x x' ∧ VRel φ y y' := by
  obtain ⟨l⟩ := args'
  cases h with
  | cons h t => cases t with
    | cons h' t => cases t; exact ⟨_, _, rfl, h, h'⟩

theorem noEscape_ok (hf : P.funcs[f]? = some fn) (hb : fn.body = none) (h1 : fn.name = "internal/abi.NoEscape") (h2 : fn.origin = "") (he : extCall P .noEscape fn.resultTypes args A = some (v, A')) (ha : VRels φ args args'.toList) :
    OpOk P φ A (callFunc f args') (.ef v A') := by
  match args, he, ha with
  | [], he, _ => cases he
  | _ :: _ :: _, he, _ => cases he
  | [x], he, ha =>
    simp only [extCall, Option.some.injEq, Prod.mk.injEq] at he
    obtain ⟨rfl, rfl⟩ := he
    obtain ⟨x', rfl, hx⟩ := vrels_one ha
    refine .same hx fun w _ => ?_
    rw [run_ext hf hb (by rw [h1]; kernel_rfl) (findNext_of h1 h2 (by kernel_rfl)) (find_rows (e := Extern.AbiNoEscape.same) h1 (by kernel_rfl) (by kernel_rfl) (by kernel_rfl))]
    rfl

theorem str_byte {s : List Nat} {c : Nat} (ha : VRels φ [.str s, .int .u8 (.ofNat c)] args'.toList) : ∃ s', args' = #[.string s', .int .u8 (.ofNat c)] ∧ s = s'.data.toList.map UInt8.toNat := by
  obtain ⟨x', y', rfl, hx, hy⟩ := vrels_two ha
  obtain ⟨s', rfl, hs⟩ := hx.str_inv
  cases hy
  exact ⟨s', rfl, hs⟩

theorem count_ok (hf : P.funcs[f]? = some fn) (hb : fn.body = none) (h1 : fn.name = "internal/bytealg.CountString") (h2 : fn.origin = "") (he : extCall P .count fn.resultTypes args A = some (v, A')) (ha : VRels φ args args'.toList) :
    OpOk P φ A (callFunc f args') (.ef v A') := by
  unfold extCall at he
  split at he
  case h_2 s c _ =>
    cases hc : Nat.blt c 256 with
    | false => rw [hc] at he; cases he
    | true =>
      rw [hc] at he
      simp only [cond_true, Option.some.injEq, Prod.mk.injEq] at he
      obtain ⟨rfl, rfl⟩ := he
      obtain ⟨s', rfl, rfl⟩ := str_byte ha
      refine .same (.int _ _) fun w _ => ?_
      rw [run_ext hf hb (by rw [h1]; kernel_rfl) (findNext_of h1 h2 (by kernel_rfl)) (find_rows (e := Extern.BytealgCount.count) h1 (by kernel_rfl) (by kernel_rfl) (by kernel_rfl)), Lib.run_countString, countByte_ok c (blt_lt hc)]
      simp
  all_goals first | (cases he; done) | (rename_i hh; cases hh; done) | skip

theorem indexByte_ok (hf : P.funcs[f]? = some fn) (hb : fn.body = none) (h1 : fn.name = "internal/bytealg.IndexByteString") (h2 : fn.origin = "") (he : extCall P .indexByte fn.resultTypes args A = some (v, A')) (ha : VRels φ args args'.toList) :
    OpOk P φ A (callFunc f args') (.ef v A') := by
  unfold extCall at he
  split at he
  case h_3 s c _ =>
    cases hc : Nat.blt c 256 with
    | false => rw [hc] at he; cases he
    | true =>
      rw [hc] at he
      simp only [cond_true, Option.some.injEq, Prod.mk.injEq] at he
      obtain ⟨rfl, rfl⟩ := he
      obtain ⟨s', rfl, rfl⟩ := str_byte ha
      refine .same (.int _ _) fun w _ => ?_
      rw [run_ext hf hb (by rw [h1]; kernel_rfl) (findNext_of h1 h2 (by kernel_rfl)) (find_rows (e := Extern.BytealgIndexByte.indexByte) h1 (by kernel_rfl) (by kernel_rfl) (by kernel_rfl)), Lib.run_indexByteString, findByte_ok c (blt_lt hc)]
      simp only [Int.ofNat_eq_natCast, Int.toNat_natCast, Result.andThen, Int.natCast_zero, Int.add_zero]
      split <;> simp_all
  all_goals first | (cases he; done) | (rename_i hh; cases hh; done) | skip

theorem digits_size : ∀ (n t : Nat) (acc : Array Value), (Extern.BytealgMakeNoZero.digits n t acc).size = acc.size + n
  | 0, _, _ => rfl
  | n + 1, t, acc => by
    rw [Extern.BytealgMakeNoZero.digits, digits_size n]
    simp
    omega
theorem digits_flat : ∀ (n t : Nat) (acc : Array Value), (∀ v ∈ acc.toList, Flat v) → ∀ v ∈ (Extern.BytealgMakeNoZero.digits n t acc).toList, Flat v
  | 0, _, _, h => h
  | n + 1, t, acc, h => by
    rw [Extern.BytealgMakeNoZero.digits]
    refine digits_flat n _ _ fun v hv => ?_
    rw [Array.toList_push, List.mem_append] at hv
    rcases hv with hv | hv
    · exact h v hv
    · simp at hv; subst hv; rfl

theorem anys_ok {φ : Phi} : ∀ (n : Nat) (l : List Value), l.length = n → VRels φ (List.replicate n .any) l
  | 0, [], _ => .nil
  | n + 1, a :: l, h => .cons (.any _) (anys_ok n l (by simpa using h))

theorem makeNoZero_ok (hf : P.funcs[f]? = some fn) (hb : fn.body = none) (h1 : fn.name = "internal/bytealg.MakeNoZero") (h2 : fn.origin = "") (he : extCall P .makeNoZero fn.resultTypes args A = some (v, A')) (ha : VRels φ args args'.toList) :
    OpOk P φ A (callFunc f args') (.ef v A') := by
  unfold extCall at he
  split at he
  case h_4 n _ =>
    split at he
    · rename_i e hu
      split at he
      · rename_i hc
        obtain ⟨hz, hn⟩ := by simpa only [Bool.and_eq_true] using hc
        simp only [Option.some.injEq, Prod.mk.injEq] at he
        obtain ⟨rfl, rfl⟩ := he
        obtain ⟨x', rfl, hx⟩ := vrels_one ha
        cases hx
        have hn := Nat.le_of_ble_eq_true hn
        intro w H
        obtain ⟨t, ht, hu⟩ : ∃ t, fn.resultTypes[0]? = some t ∧ P.underlying t = some (.slice e) := by
          cases ht : fn.resultTypes[0]? with
          | none => rw [ht] at hu; cases hu
          | some t => rw [ht] at hu; exact ⟨t, rfl, hu⟩
        let cap := grownCap w n 0 e
        let bs := (Question.extern "internal/bytealg.MakeNoZero.bytes" 0).cut (w.tape (w.drawn + 1) (.extern "internal/bytealg.MakeNoZero.bytes" 0))
        let c := Extern.BytealgMakeNoZero.digits cap bs #[]
        have hcs : c.size = cap := by simp only [c]; rw [digits_size]; simp
        have hcap : n ≤ cap := grownCap_ge w n 0 e
        have hrun : (Extern.BytealgMakeNoZero.makeNoZero fn.params fn.resultTypes #[.int .i64 (Int.ofNat n)]).run P w = .ok (.slice (some ⟨w.heap.size, 0, none⟩) n cap) { w with heap := w.heap.push (.cells c e), drawn := w.drawn + 2 } := by
          show Sem.run P (match fn.resultTypes[0]? with | some t => _ | _ => _) w = _
          have g1 : ¬ (n : Int) < 0 := by omega
          have g2 : ¬ (281474976710656 : Int) < (n : Int) := by omega
          simp [ht, run_underlying hu, g1, g2, Question.forced, newRow, grownCap, c, cap, bs]
          rfl
        obtain ⟨f1, f2⟩ := H.fresh
        have hO : ORel (φ.put A.next (w.heap.size, 0, cap)) (.cells e (List.replicate n .any) false none) (.cells c e) 0 cap := by
          refine .cells (.inr ⟨rfl, rfl⟩) (by omega) (by simpa using hcap) ?_ ?_ (fun _ => by simp)
          · simp only [List.drop_zero, List.length_replicate]
            exact anys_ok n _ (by simp; omega)
          · intro v hv
            exact digits_flat _ _ _ (by simp) v (List.mem_of_mem_drop (List.mem_of_mem_take hv))
        refine ⟨_, .value (.slice (some ⟨w.heap.size, 0, none⟩) n cap), _, _, ?_, .inl rfl, H.alloc f1 f2 (AW.get_push A _) (by rw [AW.next_push]; omega) (by rw [AW.next_push]; omega) hO, ?_,
          Goes.alloc (n := w.drawn + 2) f1 (AW.get_push A _) (by rw [AW.next_push]; omega) (Nat.le_refl _)⟩
        · rw [run_ext hf hb (by rw [h1]; kernel_rfl) (findNext_of h1 h2 (by kernel_rfl)) (find_typed (e := Extern.BytealgMakeNoZero.makeNoZero) h1 (by kernel_rfl) (by kernel_rfl)), hrun]
          rfl
        · exact .slice (Phi.put_same _ _ _) hcap (fun h => by cases h) (Nat.le_refl _) (by omega) (fun _ => rfl)
      · cases he
    · cases he
  all_goals first | (cases he; done) | (rename_i hh; cases hh; done) | skip

end
end
end Go.Ae

/- Calls whose evaluation is proved by itself. -/
namespace Go.Ae
open Go

def natsEq (a b : Option Nat) : Bool := match a, b with
  | none, none => true
  | some x, some y => Nat.beq x y
  | _, _ => false
theorem natsEq_eq {a b : Option Nat} (h : natsEq a b = true) : a = b := by
  cases a <;> cases b <;> simp only [natsEq] at h
  · rfl
  · cases h
  · cases h
  · rw [Nat.eq_of_beq_eq_true h]

def esEq : List (AV × AV × Nat) → List (AV × AV × Nat) → Bool
  | [], [] => true
  | (a, b, n) :: l, (a', b', n') :: l' => AV.beq a a' && AV.beq b b' && Nat.beq n n' && esEq l l'
  | _, _ => false
theorem esEq_eq : ∀ {l l' : List (AV × AV × Nat)}, esEq l l' = true → l = l'
  | [], [], _ => rfl
  | [], _ :: _, h => by cases h
  | _ :: _, [], h => by cases h
  | (a, b, n) :: l, (a', b', n') :: l', h => by
    simp only [esEq, Bool.and_eq_true] at h
    obtain ⟨⟨⟨h1, h2⟩, h3⟩, h4⟩ := h
    rw [AV.beq_eq _ _ h1, AV.beq_eq _ _ h2, Nat.eq_of_beq_eq_true h3, esEq_eq h4]

def roEq (a b : Bool) : Bool := match a with
  | true => b
  | false => match b with
    | true => false
    | false => true
theorem roEq_eq {a b : Bool} (h : roEq a b = true) : a = b := by cases a <;> cases b <;> first | rfl | cases h

/-- the same content? (rows and maps alone) -/
def obEq (a b : AObj) : Bool := match a with
  | .cells t c r s => match b with
    | .cells t' c' r' s' => Nat.beq t t' && roEq r r' && natsEq s s' && AV.beqs c c'
    | _ => false
  | .map es k => match b with
    | .map es' k' => Nat.beq k k' && esEq es es'
    | _ => false
  | _ => false
theorem obEq_eq {a b : AObj} (h : obEq a b = true) : a = b := by
  cases a <;> cases b <;> simp only [obEq, Bool.and_eq_true] at h <;> try (cases h; done)
  · obtain ⟨⟨⟨h1, h2⟩, h3⟩, h4⟩ := h
    rw [Nat.eq_of_beq_eq_true h1, roEq_eq h2, natsEq_eq h3, AV.beqs_eq _ _ h4]
  · obtain ⟨h1, h2⟩ := h
    rw [Nat.eq_of_beq_eq_true h1, esEq_eq h2]

def oEq (a b : Option AObj) : Bool := match a with
  | none => match b with
    | none => true
    | some _ => false
  | some x => match b with
    | some y => obEq x y
    | none => false
theorem oEq_eq {a b : Option AObj} (h : oEq a b = true) : a = b := by
  cases a <;> cases b <;> simp only [oEq] at h
  · rfl
  · cases h
  · cases h
  · rw [obEq_eq h]

/-- THE FRAME RULE: what a part of the blocks does is what all do. -/
theorem frame {φ φ' : Phi} {A Ap Af A' : AW} {w w' : World} (H : HRel φ A w.heap) (hpre : ∀ b o, Ap.get b = some o → A.get b = some o)
    (hsib : ∀ b o s, Ap.get b = some o → o.sib = some s → ∃ o', Ap.get s = some o') (H' : HRel φ' Af w'.heap) (G : Goes A.next φ Ap w φ' Af w')
    {S : Nat → Prop} (hS : ∀ b o, Ap.get b = some o → S b) (hA1 : ∀ b, S b → A'.get b = Af.get b) (hA2 : ∀ b, ¬ S b → A'.get b = A.get b)
    (hn : A'.next = Af.next) (hle : A.next ≤ Af.next) : HRel φ' A' w'.heap ∧ Goes A.next φ A w φ' A' w' := by
  -- a block that is left out, and one that is not, at one place
  have apart : ∀ b o R s l, ¬ S b → A.get b = some o → φ b = some (R, s, l) → ∀ c oc s' l', Ap.get c = some oc → φ c = some (R, s', l') → o.ro = true ∧ oc.ro = true := by
    intro b o R s l hb hg hφ c oc s' l' hc hφc
    have hne : b ≠ c := fun he => hb (by rw [he]; exact hS c oc hc)
    rcases H.sep b c o oc R s l s' l' hne hg (hpre c oc hc) hφ hφc with h | ⟨h1, h2⟩
    · exact h
    · obtain ⟨o', ho'⟩ := hsib c oc b hc h2
      exact absurd (hS b o' ho') hb
  have old : ∀ b o, ¬ S b → A.get b = some o → ∃ R s l obj, φ b = some (R, s, l) ∧ R < w.heap.size ∧ w.heap[R]? = some obj ∧ w'.heap[R]? = some obj ∧ ORel φ o obj s l := by
    intro b o hb hg
    obtain ⟨R, s, l, obj, h1, h2, h3⟩ := H.con b o hg
    have hR := (H.dom b R s l h1).2
    refine ⟨R, s, l, obj, h1, hR, h2, ?_, h3⟩
    rw [G.keep R hR fun c oc s' l' hc hr hφc => ?_]
    · exact h2
    · have := (apart b o R s l hb hg h1 c oc s' l' hc hφc).2
      rw [hr] at this; cases this
  have mixed : ∀ b o R s l, ¬ S b → A.get b = some o → φ b = some (R, s, l) → ∀ c oc s' l', Af.get c = some oc → φ' c = some (R, s', l') → o.ro = true ∧ oc.ro = true := by
    intro b o R s l hb hg hφ c oc s' l' hc hφc
    have hR := (H.dom b R s l hφ).2
    obtain ⟨b0, o0, s0, l0, e1, e2⟩ := G.img2 c oc R s' l' hc hφc hR
    refine ⟨(apart b o R s l hb hg hφ b0 o0 s0 l0 e1 e2).1, ?_⟩
    cases hro : oc.ro with
    | true => rfl
    | false =>
      obtain ⟨b1, o1, s1, l1, f1, f2, f3⟩ := G.img c oc R s' l' hc hro hφc hR
      have := (apart b o R s l hb hg hφ b1 o1 s1 l1 f1 f3).2
      rw [f2] at this; cases this
  constructor
  · refine ⟨fun b o hb => ?_, fun b R s l hb => ?_, fun b o hb => ?_, fun b b' o o' R s l s' l' hne hb hb' hf hf' => ?_⟩
    · rw [hn]
      by_cases hs : S b
      · rw [hA1 b hs] at hb; exact H'.low b o hb
      · rw [hA2 b hs] at hb; exact Nat.lt_of_lt_of_le (H.low b o hb) hle
    · rw [hn]; exact H'.dom b R s l hb
    · by_cases hs : S b
      · rw [hA1 b hs] at hb; exact H'.con b o hb
      · rw [hA2 b hs] at hb
        obtain ⟨R, s, l, obj, h1, _, _, h4, h5⟩ := old b o hs hb
        exact ⟨R, s, l, obj, G.le _ _ h1, h4, h5.mono G.le⟩
    · by_cases hs : S b
      · rw [hA1 b hs] at hb
        by_cases hs' : S b'
        · rw [hA1 b' hs'] at hb'
          exact H'.sep b b' o o' R s l s' l' hne hb hb' hf hf'
        · rw [hA2 b' hs'] at hb'
          obtain ⟨R1, s1, l1, _, h1, _, _, _, _⟩ := old b' o' hs' hb'
          rw [G.le _ _ h1] at hf'
          cases hf'
          obtain ⟨q1, q2⟩ := mixed b' o' _ _ _ hs' hb' h1 b o s l hb hf
          exact .inl ⟨q2, q1⟩
      · rw [hA2 b hs] at hb
        obtain ⟨R1, s1, l1, _, h1, _, _, _, _⟩ := old b o hs hb
        rw [G.le _ _ h1] at hf
        cases hf
        by_cases hs' : S b'
        · rw [hA1 b' hs'] at hb'
          obtain ⟨q1, q2⟩ := mixed b o _ _ _ hs hb h1 b' o' s' l' hb' hf'
          exact .inl ⟨q1, q2⟩
        · rw [hA2 b' hs'] at hb'
          obtain ⟨R2, s2, l2, _, h2, _, _, _, _⟩ := old b' o' hs' hb'
          rw [G.le _ _ h2] at hf'
          cases hf'
          exact H.sep b b' o o' _ _ _ _ _ hne hb hb' h1 h2
  · refine ⟨G.le, by rw [hn]; exact hle, G.size, fun R hR hk => G.keep R hR fun b o s l hb => hk b o s l (hpre b o hb), fun b o R s l hb hr hf hR => ?_, fun b o R s l hb hf hR => ?_, G.fresh, G.os, G.output, G.tape⟩
    · by_cases hs : S b
      · rw [hA1 b hs] at hb
        obtain ⟨b0, o0, s0, l0, e1, e2, e3⟩ := G.img b o R s l hb hr hf hR
        exact ⟨b0, o0, s0, l0, hpre _ _ e1, e2, e3⟩
      · rw [hA2 b hs] at hb
        obtain ⟨R1, s1, l1, _, h1, _⟩ := old b o hs hb
        rw [G.le _ _ h1] at hf
        cases hf
        exact ⟨b, o, _, _, hb, hr, h1⟩
    · by_cases hs : S b
      · rw [hA1 b hs] at hb
        obtain ⟨b0, o0, s0, l0, e1, e3⟩ := G.img2 b o R s l hb hf hR
        exact ⟨b0, o0, s0, l0, hpre _ _ e1, e3⟩
      · rw [hA2 b hs] at hb
        obtain ⟨R1, s1, l1, _, h1, _⟩ := old b o hs hb
        rw [G.le _ _ h1] at hf
        cases hf
        exact ⟨b, o, _, _, hb, h1⟩

end Go.Ae

/- Records of calls; the oracle that they make. -/
namespace Go.Ae
open Go

structure Chunk where
  f : FuncId
  args : List AV
  next : Nat
  pre : List (Nat × AObj)
  v : AV
  post : List (Nat × Option AObj)
  next' : Nat

noncomputable def setAll : List (Nat × AObj) → AW → AW
  | [], A => A
  | (b, o) :: l, A => setAll l (A.set b (some o))
noncomputable def setAllO : List (Nat × Option AObj) → AW → AW
  | [], A => A
  | (b, o) :: l, A => setAllO l (A.set b o)
noncomputable def allIn : List (Nat × AObj) → AW → Bool
  | [], _ => true
  | (b, o) :: l, A => match A.get b with
    | some o' => match obEq o' o with
      | true => allIn l A
      | false => false
    | none => false
noncomputable def allInO : List (Nat × Option AObj) → AW → Bool
  | [], _ => true
  | (b, o) :: l, A => match oEq (A.get b) o with
    | true => allInO l A
    | false => false
def hasId {α : Type} : List (Nat × α) → Nat → Bool
  | [], _ => false
  | (b, _) :: l, x => match Nat.beq b x with
    | true => true
    | false => hasId l x
def sibsIn (all : List (Nat × AObj)) : List (Nat × AObj) → Bool
  | [] => true
  | (_, o) :: l => match (match o with | .cells _ _ _ s => s | _ => none) with
    | none => sibsIn all l
    | some s => match hasId all s with
      | true => sibsIn all l
      | false => false
/-- what is not said to have changed has not -/
noncomputable def keptIn (post : List (Nat × Option AObj)) : List (Nat × AObj) → AW → Bool
  | [], _ => true
  | (b, o) :: l, A => match hasId post b with
    | true => keptIn post l A
    | false => match A.get b with
      | some o' => match obEq o' o with
        | true => keptIn post l A
        | false => false
      | none => false

def AW.at (A : AW) (n : Nat) : AW := match A with
  | ⟨h, _⟩ => ⟨h, n⟩

noncomputable def Chunk.go (c : Chunk) (f : FuncId) (args : List AV) (A : AW) : Option (AV × AW) :=
  match Nat.beq A.next c.next with
  | false => none
  | true => match Nat.beq f c.f with
    | false => none
    | true => match AV.beqs args c.args with
      | false => none
      | true => match allIn c.pre A with
        | false => none
        | true => some (c.v, (setAllO c.post A).at c.next')

noncomputable def oracle : List Chunk → Prims
  | [], _, _, _ => none
  | c :: r, f, args, A => match c.go f args A with
    | some x => some x
    | none => oracle r f args A

noncomputable def Chunk.ok (P : Program) (r : List Chunk) (fuel : Nat) (c : Chunk) : Bool :=
  match sibsIn c.pre c.pre with
  | false => false
  | true => match enterA P c.f c.args false .none with
    | none => false
    | some cal => match run P (oracle r) fuel cal (setAll c.pre ⟨.nil, c.next⟩) with
      | some (.ret v _, A) => AV.beq v c.v && Nat.beq A.next c.next' && allInO c.post A && keptIn c.post c.pre A
      | _ => false

theorem allIn_spec : ∀ {l : List (Nat × AObj)} {A : AW}, allIn l A = true → ∀ p ∈ l, A.get p.1 = some p.2
  | [], _, _, p, hp => by simp at hp
  | (b, o) :: l, A, h, p, hp => by
    simp only [allIn] at h
    split at h
    · rename_i o' hg
      split at h
      · rename_i hb
        rcases List.mem_cons.1 hp with rfl | hp
        · rw [hg, obEq_eq hb]
        · exact allIn_spec h p hp
      · cases h
    · cases h
theorem allInO_spec : ∀ {l : List (Nat × Option AObj)} {A : AW}, allInO l A = true → ∀ p ∈ l, A.get p.1 = p.2
  | [], _, _, p, hp => by simp at hp
  | (b, o) :: l, A, h, p, hp => by
    simp only [allInO] at h
    split at h
    · rename_i hb
      rcases List.mem_cons.1 hp with rfl | hp
      · exact oEq_eq hb
      · exact allInO_spec h p hp
    · cases h
theorem hasId_spec {α : Type} : ∀ {l : List (Nat × α)} {x : Nat}, hasId l x = true ↔ ∃ p ∈ l, p.1 = x
  | [], x => by simp [hasId]
  | (b, o) :: l, x => by
    simp only [hasId]
    cases hb : Nat.beq b x with
    | true => simp [Nat.eq_of_beq_eq_true hb]
    | false => simp [hasId_spec (l := l), Nat.ne_of_beq_eq_false hb]
theorem sibsIn_spec {all : List (Nat × AObj)} : ∀ {l : List (Nat × AObj)}, sibsIn all l = true → ∀ p ∈ l, ∀ s, p.2.sib = some s → hasId all s = true
  | [], _, p, hp => by simp at hp
  | (b, o) :: l, h, p, hp => by
    intro s hs
    simp only [sibsIn] at h
    split at h
    · rename_i hn
      rcases List.mem_cons.1 hp with rfl | hp
      · simp only [AObj.sib] at hs
        cases o <;> simp only at hs hn <;> first | (cases hs; cases hn; done) | (rw [hn] at hs; cases hs; done) | cases hs
      · exact sibsIn_spec h p hp s hs
    · rename_i s' hn
      split at h
      · rename_i hi
        rcases List.mem_cons.1 hp with rfl | hp
        · simp only [AObj.sib] at hs
          cases o <;> simp only at hs hn <;> first | (cases hs; cases hn; exact hi) | (rw [hn] at hs; cases hs; exact hi) | cases hs
        · exact sibsIn_spec h p hp s hs
      · cases h
theorem keptIn_spec {post : List (Nat × Option AObj)} : ∀ {l : List (Nat × AObj)} {A : AW}, keptIn post l A = true → ∀ p ∈ l, hasId post p.1 = false → A.get p.1 = some p.2
  | [], _, _, p, hp => by simp at hp
  | (b, o) :: l, A, h, p, hp => by
    intro hn
    simp only [keptIn] at h
    split at h
    · rename_i hi
      rcases List.mem_cons.1 hp with rfl | hp
      · simp only at hn; rw [hn] at hi; cases hi
      · exact keptIn_spec h p hp hn
    · split at h
      · rename_i o' hg
        split at h
        · rename_i hb
          rcases List.mem_cons.1 hp with rfl | hp
          · rw [hg, obEq_eq hb]
          · exact keptIn_spec h p hp hn
        · cases h
      · cases h

theorem setAll_get : ∀ {l : List (Nat × AObj)} {A : AW} {b : Nat} {o : AObj}, (setAll l A).get b = some o → (∃ p ∈ l, p = (b, o)) ∨ A.get b = some o
  | [], A, b, o, h => .inr h
  | (c, x) :: l, A, b, o, h => by
    simp only [setAll] at h
    rcases setAll_get h with ⟨p, hp, he⟩ | h
    · exact .inl ⟨p, List.mem_cons_of_mem _ hp, he⟩
    · rw [AW.get_set] at h
      split at h
      · rename_i hbc
        cases h
        subst hbc
        exact .inl ⟨_, List.mem_cons_self .., rfl⟩
      · exact .inr h
theorem setAll_has : ∀ {l : List (Nat × AObj)} {A : AW} {b : Nat}, hasId l b = true ∨ (A.get b).isSome = true → ((setAll l A).get b).isSome = true
  | [], A, b, h => h.resolve_left (by simp [hasId])
  | (c, x) :: l, A, b, h => by
    simp only [setAll]
    apply setAll_has
    by_cases hl : hasId l b = true
    · exact .inl hl
    · right
      rw [AW.get_set]
      split
      · rfl
      · rename_i hne
        rcases h with h | h
        · exfalso
          obtain ⟨p, hp, he⟩ := hasId_spec.1 h
          rcases List.mem_cons.1 hp with rfl | hp
          · exact hne he.symm
          · exact hl (hasId_spec.2 ⟨p, hp, he⟩)
        · exact h
theorem setAll_next : ∀ (l : List (Nat × AObj)) (A : AW), (setAll l A).next = A.next
  | [], A => rfl
  | (c, x) :: l, A => by simp only [setAll]; rw [setAll_next l, AW.next_set]
theorem setAllO_get : ∀ {l : List (Nat × Option AObj)} {A : AW} {b : Nat}, (hasId l b = true ∧ ∃ p ∈ l, p.1 = b ∧ (setAllO l A).get b = p.2) ∨ (hasId l b = false ∧ (setAllO l A).get b = A.get b)
  | [], A, b => .inr ⟨rfl, rfl⟩
  | (c, x) :: l, A, b => by
    simp only [setAllO]
    rcases setAllO_get (l := l) (A := A.set c x) (b := b) with ⟨h1, p, hp, h2, h3⟩ | ⟨h1, h2⟩
    · left
      exact ⟨hasId_spec.2 ⟨p, List.mem_cons_of_mem _ hp, h2⟩, p, List.mem_cons_of_mem _ hp, h2, h3⟩
    · rw [h2, AW.get_set]
      by_cases hb : b = c
      · subst hb
        left
        rw [if_pos rfl]
        exact ⟨hasId_spec.2 ⟨_, List.mem_cons_self .., rfl⟩, _, List.mem_cons_self .., rfl, rfl⟩
      · right
        rw [if_neg hb]
        refine ⟨?_, rfl⟩
        simp only [hasId]
        rw [show Nat.beq c b = false by cases hq : Nat.beq c b with | false => rfl | true => exact absurd (Nat.eq_of_beq_eq_true hq).symm hb]
        exact h1

/-- ALL that the simulation rests on, of a program -/
structure Footing (P : Program) : Prop where
  hN : NoNum P
  hX : ExtsOk P
  hm : P.follows .mixedOrders = true

/-- a record does what the program does -/
def ChunkOk (P : Program) (c : Chunk) : Prop := ∀ f args A v A', c.go f args A = some (v, A') → ∀ φ w args', VRels φ args args'.toList → HRel φ A w.heap → GlobOk P φ →
  (∃ fn c, P.funcs[f]? = some fn ∧ fn.body = some c) ∧ ∀ (cf : Frame) (cs : List Frame), ∃ φ' v' w', VRel φ' v v' ∧ Steps P (lone (Frame.enter P f args' .normal) (cf :: cs) w) (lone (cf.finish v') cs w') ∧ HRel φ' A' w'.heap ∧ Goes A.next φ A w φ' A' w'

theorem oracle_nil {P : Program} : PrimsOk P (oracle []) := by
  intro f args A v A' h
  cases h

theorem oracle_cons {P : Program} {c : Chunk} {r : List Chunk} (hc : ChunkOk P c) (hr : PrimsOk P (oracle r)) : PrimsOk P (oracle (c :: r)) := by
  intro f args A v A' h φ w args' ha H hG
  simp only [oracle] at h
  split at h
  · rename_i x hgo
    simp only [Option.some.injEq] at h
    subst h
    exact hc f args A v A' hgo φ w args' ha H hG
  · exact hr f args A v A' h φ w args' ha H hG

theorem chunk_one {P : Program} (E : Footing P) {r : List Chunk} (hr : PrimsOk P (oracle r)) {c : Chunk} {fuel : Nat} (hc : c.ok P r fuel = true) : ChunkOk P c := by
  intro f args A v A' hgo φ w args' ha H hG
  unfold Chunk.go at hgo
  split at hgo
  · cases hgo
  rename_i hnx
  split at hgo
  · cases hgo
  rename_i hf
  split at hgo
  · cases hgo
  rename_i hargs
  split at hgo
  · cases hgo
  rename_i hpre
  simp only [Option.some.injEq, Prod.mk.injEq] at hgo
  obtain ⟨rfl, rfl⟩ := hgo
  have hnx := Nat.eq_of_beq_eq_true hnx
  have hf := Nat.eq_of_beq_eq_true hf
  have hargs := AV.beqs_eq _ _ hargs
  subst hf hargs
  unfold Chunk.ok at hc
  split at hc
  · cases hc
  rename_i hsib
  split at hc
  · cases hc
  rename_i cal hcal
  split at hc
  rotate_left
  · cases hc
  rename_i v tk Af hrun
  simp only [Bool.and_eq_true] at hc
  obtain ⟨⟨⟨hv, hn⟩, hpost⟩, hkept⟩ := hc
  have hv := AV.beq_eq _ _ hv
  have hn := Nat.eq_of_beq_eq_true hn
  obtain ⟨fn, body, hfn, hb, hlen, rfl⟩ := enterA_ok hcal
  refine ⟨⟨fn, body, hfn, hb⟩, fun cf cs => ?_⟩
  have hpre' := allIn_spec hpre
  let Ap := setAll c.pre ⟨.nil, c.next⟩
  have hAp : ∀ b o, Ap.get b = some o → A.get b = some o ∧ hasId c.pre b = true := by
    intro b o hb
    rcases setAll_get hb with ⟨p, hp, rfl⟩ | h0
    · exact ⟨hpre' _ hp, hasId_spec.2 ⟨_, hp, rfl⟩⟩
    · cases h0
  have hApn : Ap.next = A.next := by show (setAll _ _).next = _; rw [setAll_next]; exact hnx.symm
  have HP : HRel φ Ap w.heap := by
    refine ⟨fun b o hb => ?_, fun b R s l hb => ?_, fun b o hb => H.con b o (hAp b o hb).1, fun b b' o o' R s l s' l' hne hb hb' => H.sep b b' o o' R s l s' l' hne (hAp b o hb).1 (hAp b' o' hb').1⟩
    · rw [hApn]; exact H.low b o (hAp b o hb).1
    · rw [hApn]; exact H.dom b R s l hb
  have hF := enterC_ok (cs := cf :: cs) hfn hb ha hlen (df := false) (rcv := .none) (rrel_normal rfl _)
  obtain ⟨φ', w', o1, o2, o3⟩ := sim E.hN hr E.hX (draws P _ E.hm E.hN hr E.hX) fuel _ _ _ _ hrun φ _ (cf :: cs) w hF HP hG rfl
  obtain ⟨frE, v', rcvE, cs', e1, e2, e3, e4, e5, e6, e7, e8, fn', e9, e10⟩ := o1
  cases e2
  refine ⟨φ', v', w', by rw [← hv]; exact e1, Steps.trans e4 (.one (step_leave_returned ⟨e6, e7, by rw [e8]; rfl, fn', e9, e10⟩)), ?_⟩
  rw [hApn] at o3
  have key : ∀ b, hasId c.pre b = true ∨ hasId c.post b = true → ((setAllO c.post A).at c.next').get b = Af.get b := by
    intro b hb
    have e0 : ((setAllO c.post A).at c.next').get b = (setAllO c.post A).get b := by
      generalize setAllO c.post A = X; cases X; rfl
    rw [e0]
    rcases setAllO_get (l := c.post) (A := A) (b := b) with ⟨h1, p, hp, h2, h3⟩ | ⟨h1, h2⟩
    · rw [h3, ← allInO_spec hpost p hp, h2]
    · rw [h2]
      rcases hb with hb | hb
      · obtain ⟨p, hp, rfl⟩ := hasId_spec.1 hb
        rw [hpre' p hp, keptIn_spec hkept p hp h1]
      · rw [h1] at hb; cases hb
  refine frame (Ap := Ap) (Af := Af) (S := fun b => hasId c.pre b = true ∨ hasId c.post b = true) H (fun b o hb => (hAp b o hb).1) ?_ o2 o3 (fun b o hb => .inl (hAp b o hb).2) key ?_ ?_ ?_
  · intro b o s hb hs
    have : hasId c.pre s = true := by
      rcases setAll_get hb with ⟨p, hp, rfl⟩ | h0
      · exact sibsIn_spec hsib _ hp s hs
      · cases h0
    have := setAll_has (l := c.pre) (A := ⟨.nil, c.next⟩) (.inl this)
    exact Option.isSome_iff_exists.1 this
  · intro b hb
    have e0 : ((setAllO c.post A).at c.next').get b = (setAllO c.post A).get b := by
      generalize setAllO c.post A = X; cases X; rfl
    rw [e0]
    rcases setAllO_get (l := c.post) (A := A) (b := b) with ⟨h1, _⟩ | ⟨h1, h2⟩
    · exact absurd (.inr h1) hb
    · exact h2
  · have e0 : ((setAllO c.post A).at c.next').next = c.next' := by
      generalize setAllO c.post A = X; cases X; rfl
    rw [e0, hn]
  · have := o3.next; rw [hApn] at this; exact this

end Go.Ae

/- Functions without a body: those of reflectlite. -/
namespace Go.Ae
open Go
section
variable {P : Program} {φ : Phi} {A : AW}

theorem ofHandle_ok {h : AV} {h' : Value} {t : TypeId} (ho : ofHandleA P h = some t) (hv : VRel φ h h') (hG : GlobOk P φ) (w : World) : (Extern.Rtype.ofHandle h').run P w = .ok t w := by
  unfold ofHandleA at ho
  split at ho
  · rename_i b t0
    split at ho
    · rename_i hb
      have hb := Nat.eq_of_beq_eq_true hb
      subst hb
      simp only [Option.some.injEq] at ho
      subst ho
      obtain ⟨R, s, l, rfl, hφ⟩ := hv.ptr_inv
      obtain ⟨l', hl⟩ := hG P.globals.size (Nat.le_refl _)
      rw [hφ] at hl
      cases hl
      simp [Extern.Rtype.ofHandle, handleType]
    · cases ho
  · cases ho

theorem handle_ok (hG : GlobOk P φ) (t : TypeId) : VRel φ (handleA P t) (typeHandle P t) := by
  obtain ⟨l, hl⟩ := hG P.globals.size (Nat.le_refl _)
  have := VRel.ptr (off := t) hl
  simpa [handleA, typeHandle] using this

theorem typeA_ok (hG : GlobOk P φ) {t : TypeId} {r : AV} (h : typeA P t = some r) : ∃ u, VRel φ r u ∧ ∀ w, (Extern.ReflectliteType.toType t).run P w = .ok u w := by
  unfold typeA at h
  cases hc : pureRun P (cutType "internal/reflectlite.rtype") with
  | none => rw [hc] at h; cases h
  | some c =>
    rw [hc] at h
    simp only [Option.map_some, Option.some.injEq] at h
    subst h
    refine ⟨.iface c (.agg #[typeHandle P t]), .iface (.agg (.cons (handle_ok hG t) .nil) (by simp [typeHandle]; rfl)), fun w => ?_⟩
    simp only [Extern.ReflectliteType.toType, Extern.Rtype.handle, Sem.run_bind, pureRun_ok hc, Result.andThen_ok, run_prog, Sem.run_pure]

theorem mkA_ok (hG : GlobOk P φ) {t : TypeId} {b off fl : Nat} {r : AV} (h : mkA P t b off fl = some r) {R s l : Nat} (hφ : φ b = some (R, s, l)) :
    ∃ u, VRel φ r u ∧ ∀ w, (Extern.ReflectliteValue.mk t ⟨R, s + off, none⟩ fl).run P w = .ok u w := by
  unfold mkA at h
  cases hk : pureRun P (Extern.Rtype.kind t) with
  | none => rw [hk] at h; cases h
  | some k =>
    rw [hk] at h
    simp only [Option.map_some, Option.some.injEq] at h
    subst h
    refine ⟨.agg #[typeHandle P t, .pointer (some ⟨R, s + off, none⟩), .int .u64 (Int.ofNat (k + 128 + fl))], .agg (.cons (handle_ok hG t) (.cons (.ptr hφ) (.cons (.int _ _) .nil))) ?_, fun w => ?_⟩
    · simp [typeHandle]; exact ⟨rfl, rfl, rfl⟩
    · simp only [Extern.ReflectliteValue.mk, Extern.Rtype.handle, Sem.run_bind, pureRun_ok hk, Result.andThen_ok, run_prog, Sem.run_pure, Extern.ReflectliteValue.flagIndir]

theorem partsA_ok (hG : GlobOk P φ) {v : AV} {v' : Value} {t : TypeId} {b off f : Nat} (h : partsA P v = some (t, b, off, f)) (hv : VRel φ v v') :
    ∃ R s l, φ b = some (R, s, l) ∧ (∀ w, (Extern.ReflectliteValue.partsAny v').run P w = .ok (some (t, ⟨R, s + off, none⟩, f)) w) ∧ (∀ w, (Extern.ReflectliteValue.parts v').run P w = .ok (some (t, ⟨R, s + off, none⟩, f)) w) := by
  unfold partsA at h
  split at h
  · rename_i hd b' off' f'
    split at h
    · cases h
    · rename_i hf
      split at h
      · rename_i t' ht
        split at h
        · cases h
        · rename_i hp
          simp only [Option.some.injEq, Prod.mk.injEq] at h
          obtain ⟨rfl, rfl, rfl, rfl⟩ := h
          obtain ⟨x', rfl, hx, _⟩ := hv.agg_inv
          obtain ⟨l⟩ := x'
          cases hx with
          | @cons _ y1 _ _ h1 hx => cases hx with
            | cons h2 hx => cases hx with
              | cons h3 hx =>
                cases hx
                cases h3
                obtain ⟨R, s, l, rfl, hφ⟩ := h2.ptr_inv
                obtain ⟨n, rfl⟩ : ∃ n, f' = n + 1 := ⟨f' - 1, by omega⟩
                have e1 : ∀ w, (Extern.ReflectliteValue.partsAny (.agg ⟨[y1, .pointer (some ⟨R, s + off', none⟩), .int .u64 (Int.ofNat (n + 1))]⟩)).run P w = .ok (some (t', ⟨R, s + off', none⟩, n + 1)) w := by
                  intro w
                  have e : Extern.ReflectliteValue.partsAny (.agg ⟨[y1, .pointer (some ⟨R, s + off', none⟩), .int .u64 (Int.ofNat (n + 1))]⟩) =
                    (do let t ← Extern.Rtype.ofHandle y1; pure (some (t, (⟨R, s + off', none⟩ : Addr), (Int.ofNat (n + 1)).toNat))) := rfl
                  simp only [e, Sem.run_bind, ofHandle_ok ht h1 hG w, Result.andThen_ok, Sem.run_pure]
                  rfl
                refine ⟨R, s, l, hφ, e1, fun w => ?_⟩
                have hp' : P.packed t' = false := by simpa using hp
                simp only [Extern.ReflectliteValue.parts, Sem.run_bind, e1, Result.andThen_ok, Extern.Rtype.noPack, run_prog, hp', Bool.false_eq_true, if_false, Sem.run_pure]
      · cases h
  · cases h

section
variable {f : FuncId} {fn : Func} {args : List AV} {args' : Array Value} {v : AV} {A' : AW}

/-- by a row -/
theorem by_row {n : String} {e : Array Value → Sem Value} (hf : P.funcs[f]? = some fn) (hb : fn.body = none) (h1 : fn.name = n) (h2 : fn.origin = "") (h3 : (n == "runtime.NumGoroutine") = false) (h4 : Extern.allNextRows.lookup n = none)
    (h5 : Extern.allGenericRows.lookup n = none) (h6 : Extern.allTypedRows.lookup n = none) (h7 : Extern.allRows.lookup n = some e) (args : Array Value) (w : World) :
    (callFunc f args).run P w = ((e args).run P w).andThen fun v w' => .ok (.value v) w' :=
  run_ext hf hb (by rw [h1]; exact h3) (findNext_of h1 h2 h4) (find_rows h1 h5 h6 h7) args w

theorem typeOf_ok (hG : GlobOk P φ) (hf : P.funcs[f]? = some fn) (hb : fn.body = none) (h1 : fn.name = "internal/reflectlite.TypeOf") (h2 : fn.origin = "") (he : extCall P .typeOf fn.resultTypes args A = some (v, A')) (ha : VRels φ args args'.toList) :
    OpOk P φ A (callFunc f args') (.ef v A') := by
  unfold extCall at he
  split at he
  case h_8 t x _ =>
    cases ht : typeA P t with
    | none => rw [ht] at he; cases he
    | some r =>
      rw [ht] at he
      simp only [Option.map_some, Option.some.injEq, Prod.mk.injEq] at he
      obtain ⟨rfl, rfl⟩ := he
      obtain ⟨x', rfl, hx⟩ := vrels_one ha
      obtain ⟨y, rfl, _⟩ := hx.iface_inv
      obtain ⟨u, hu, hr⟩ := typeA_ok hG ht
      refine .same hu fun w _ => ?_
      rw [by_row (e := Extern.ReflectliteType.typeOf) hf hb h1 h2 (by kernel_rfl) (by kernel_rfl) (by kernel_rfl) (by kernel_rfl) (by kernel_rfl)]
      show Result.andThen ((Extern.ReflectliteType.toType t).run P w) _ = _
      rw [hr]; rfl
  all_goals first | (cases he; done) | (rename_i hh; cases hh; done) | skip

theorem vType_ok (hG : GlobOk P φ) (hf : P.funcs[f]? = some fn) (hb : fn.body = none) (h1 : fn.name = "(internal/reflectlite.Value).Type") (h2 : fn.origin = "") (he : extCall P .vType fn.resultTypes args A = some (v, A')) (ha : VRels φ args args'.toList) :
    OpOk P φ A (callFunc f args') (.ef v A') := by
  unfold extCall at he
  split at he
  case h_6 x _ =>
    split at he
    · rename_i t b off fl hp
      cases ht : typeA P t with
      | none => rw [ht] at he; cases he
      | some r =>
        rw [ht] at he
        simp only [Option.map_some, Option.some.injEq, Prod.mk.injEq] at he
        obtain ⟨rfl, rfl⟩ := he
        obtain ⟨x', rfl, hx⟩ := vrels_one ha
        obtain ⟨R, s, l, hφ, p1, p2⟩ := partsA_ok hG hp hx
        obtain ⟨u, hu, hr⟩ := typeA_ok hG ht
        refine .same hu fun w _ => ?_
        rw [by_row (e := Extern.ReflectliteValue.methodAny (Extern.ReflectliteValue.valueError "reflectlite.Value.Type" 0) fun t _ _ _ => Extern.ReflectliteType.toType t) hf hb h1 h2 (by kernel_rfl) (by kernel_rfl) (by kernel_rfl) (by kernel_rfl) (by kernel_rfl)]
        have e : Extern.ReflectliteValue.methodAny (Extern.ReflectliteValue.valueError "reflectlite.Value.Type" 0) (fun t _ _ _ => Extern.ReflectliteType.toType t) #[x'] =
          (do match ← Extern.ReflectliteValue.partsAny x' with
            | none => Extern.ReflectliteValue.valueError "reflectlite.Value.Type" 0
            | some (t, _, _) => Extern.ReflectliteType.toType t) := rfl
        simp only [e, Sem.run_bind, p1, Result.andThen_ok, hr]
    · cases he
  all_goals first | (cases he; done) | (rename_i hh; cases hh; done) | skip

theorem tKind_ok (hG : GlobOk P φ) (hf : P.funcs[f]? = some fn) (hb : fn.body = none) (h1 : fn.name = "(*internal/abi.Type).Kind") (h2 : fn.origin = "") (he : extCall P .tKind fn.resultTypes args A = some (v, A')) (ha : VRels φ args args'.toList) :
    OpOk P φ A (callFunc f args') (.ef v A') := by
  unfold extCall at he
  split at he
  case h_14 x _ =>
    split at he
    · rename_i t ht
      split at he
      · cases he
      · rename_i hp
        cases hk : pureRun P (Extern.Rtype.kind t) with
        | none => rw [hk] at he; cases he
        | some k =>
          rw [hk] at he
          simp only [Option.map_some, Option.some.injEq, Prod.mk.injEq] at he
          obtain ⟨rfl, rfl⟩ := he
          obtain ⟨x', rfl, hx⟩ := vrels_one ha
          have hp' : P.packed t = false := by simpa using hp
          refine .same (.int _ _) fun w _ => ?_
          rw [by_row (e := Extern.ReflectliteType.abiMethod fun t => do pure (.int .u8 (← Extern.Rtype.kind t))) hf hb h1 h2 (by kernel_rfl) (by kernel_rfl) (by kernel_rfl) (by kernel_rfl) (by kernel_rfl)]
          have e : Extern.ReflectliteType.abiMethod (fun t => do pure (.int .u8 (← Extern.Rtype.kind t))) #[x'] = (do
            let t ← Extern.Rtype.ofHandle x'
            Extern.Rtype.noPack "a method of abi.Type" t
            pure (.int .u8 (← Extern.Rtype.kind t))) := rfl
          simp only [e, Sem.run_bind, ofHandle_ok ht hx hG, Result.andThen_ok, Extern.Rtype.noPack, run_prog, hp', Bool.false_eq_true, if_false, Sem.run_pure, pureRun_ok hk]
          rfl
    · cases he
  all_goals first | (cases he; done) | (rename_i hh; cases hh; done) | skip

theorem isNil_ok (hG : GlobOk P φ) (hf : P.funcs[f]? = some fn) (hb : fn.body = none) (h1 : fn.name = "(internal/reflectlite.Value).IsNil") (h2 : fn.origin = "") (he : extCall P .isNil fn.resultTypes args A = some (v, A')) (ha : VRels φ args args'.toList) :
    OpOk P φ A (callFunc f args') (.ef v A') := by
  unfold extCall at he
  split at he
  case h_7 x _ =>
    split at he
    · rename_i t b off fl hp
      split at he
      · rename_i hc
        obtain ⟨x', rfl, hx⟩ := vrels_one ha
        obtain ⟨R, s, l, hφ, p1, p2⟩ := partsA_ok hG hp hx
        have fin : ∀ (q : Option (Nat × Nat)), evalRq P A (.load t b off) = some (.ptr q) → OpOk P φ A (callFunc f #[x']) (.ef (.bool q.isNone) A) := by
          intro q hq
          refine .same (.bool _) fun w H => ?_
          obtain ⟨u, u1, u2⟩ := loadA_ok H hφ hq
          rw [by_row (e := Extern.ReflectliteValue.method (Extern.ReflectliteValue.valueError "reflectlite.Value.IsNil" 0) Extern.ReflectliteValue.isNil) hf hb h1 h2 (by kernel_rfl) (by kernel_rfl) (by kernel_rfl) (by kernel_rfl) (by kernel_rfl)]
          have e : Extern.ReflectliteValue.method (Extern.ReflectliteValue.valueError "reflectlite.Value.IsNil" 0) Extern.ReflectliteValue.isNil #[x'] =
            (do match ← Extern.ReflectliteValue.parts x' with
              | none => Extern.ReflectliteValue.valueError "reflectlite.Value.IsNil" 0
              | some (t, a, fl) => Extern.ReflectliteValue.isNil t a fl (fl % 32)) := rfl
          have hn : (!([18, 19, 20, 21, 22, 23, 26].contains (fl % 32))) = false := by rw [hc]; rfl
          simp only [e, Sem.run_bind, p2, Result.andThen_ok, Extern.ReflectliteValue.isNil, hn, Bool.false_eq_true, if_false, u2]
          cases q with
          | none => cases u1; rfl
          | some q =>
            obtain ⟨b1, o1⟩ := q
            obtain ⟨R1, s1, l1, rfl, _⟩ := u1.ptr_inv
            rfl
        split at he
        · rename_i hq
          cases he
          exact fin none hq
        · rename_i q hq
          cases he
          exact fin (some q) hq
        · cases he
      · cases he
    · cases he
  all_goals first | (cases he; done) | (rename_i hh; cases hh; done) | skip

theorem vElem_ok (hG : GlobOk P φ) (hf : P.funcs[f]? = some fn) (hb : fn.body = none) (h1 : fn.name = "(internal/reflectlite.Value).Elem") (h2 : fn.origin = "") (he : extCall P .vElem fn.resultTypes args A = some (v, A')) (ha : VRels φ args args'.toList) :
    OpOk P φ A (callFunc f args') (.ef v A') := by
  unfold extCall at he
  split at he
  case h_9 x _ =>
    split at he
    · rename_i t b off fl hp
      split at he
      · rename_i hc
        have hc := Nat.eq_of_beq_eq_true hc
        obtain ⟨x', rfl, hx⟩ := vrels_one ha
        obtain ⟨R, s, l, hφ, p1, p2⟩ := partsA_ok hG hp hx
        split at he
        · rename_i b1 o1 e1 hq hel
          cases hm : mkA P e1 b1 o1 256 with
          | none => rw [hm] at he; cases he
          | some r =>
            rw [hm] at he
            simp only [Option.map_some, Option.some.injEq, Prod.mk.injEq] at he
            obtain ⟨rfl, rfl⟩ := he
            intro w H
            obtain ⟨u, u1, u2⟩ := loadA_ok H hφ hq
            obtain ⟨R1, s1, l1, rfl, hφ1⟩ := u1.ptr_inv
            obtain ⟨y, y1, y2⟩ := mkA_ok hG hm hφ1
            refine ⟨φ, .value y, y, w, ?_, .inl rfl, H, y1, Goes.refl _ _ _ _⟩
            rw [by_row (e := Extern.ReflectliteValue.method (Extern.ReflectliteValue.valueError "reflectlite.Value.Elem" 0) Extern.ReflectliteValue.elem) hf hb h1 h2 (by kernel_rfl) (by kernel_rfl) (by kernel_rfl) (by kernel_rfl) (by kernel_rfl)]
            have e : Extern.ReflectliteValue.method (Extern.ReflectliteValue.valueError "reflectlite.Value.Elem" 0) Extern.ReflectliteValue.elem #[x'] =
              (do match ← Extern.ReflectliteValue.parts x' with
                | none => Extern.ReflectliteValue.valueError "reflectlite.Value.Elem" 0
                | some (t, a, fl) => Extern.ReflectliteValue.elem t a fl (fl % 32)) := rfl
            have hn : ((22 : Nat) != 20 && (22 : Nat) != 22) = false := rfl
            simp only [e, Sem.run_bind, p2, Result.andThen_ok, hc, Extern.ReflectliteValue.elem, hn, Bool.false_eq_true, if_false, u2, pureRun_ok hel, Extern.ReflectliteValue.flagAddr, y2]
        · cases he
      · cases he
    · cases he
  all_goals first | (cases he; done) | (rename_i hh; cases hh; done) | skip

theorem ofRtype_ok (hG : GlobOk P φ) {h : AV} {r' : Value} {t : TypeId} (ht : ofHandleA P h = some t) (hp : P.packed t = false) (hv : VRel φ (.agg [h]) r') (w : World) : (Extern.ReflectliteType.ofRtype r').run P w = .ok t w := by
  obtain ⟨x', rfl, hx, _⟩ := hv.agg_inv
  obtain ⟨l⟩ := x'
  cases hx with
  | @cons _ y1 _ _ h1 hx =>
    cases hx
    have e : Extern.ReflectliteType.ofRtype (.agg ⟨[y1]⟩) = (do
      let t ← Extern.Rtype.ofHandle y1
      Extern.Rtype.noPack "a Type asked or handed on" t
      pure t) := rfl
    simp only [e, Sem.run_bind, ofHandle_ok ht h1 hG, Result.andThen_ok, Extern.Rtype.noPack, run_prog, hp, Bool.false_eq_true, if_false, Sem.run_pure]

theorem rElem_ok (hG : GlobOk P φ) (hf : P.funcs[f]? = some fn) (hb : fn.body = none) (h1 : fn.name = "(internal/reflectlite.rtype).Elem") (h2 : fn.origin = "") (he : extCall P .rElem fn.resultTypes args A = some (v, A')) (ha : VRels φ args args'.toList) :
    OpOk P φ A (callFunc f args') (.ef v A') := by
  unfold extCall at he
  split at he
  case h_11 h _ =>
    split at he
    · rename_i t ht
      split at he
      · cases he
      · rename_i hp
        have hp' : P.packed t = false := by simpa using hp
        split at he
        · rename_i e1 hel
          cases hm : typeA P e1 with
          | none => rw [hm] at he; cases he
          | some r =>
            rw [hm] at he
            simp only [Option.map_some, Option.some.injEq, Prod.mk.injEq] at he
            obtain ⟨rfl, rfl⟩ := he
            obtain ⟨x', rfl, hx⟩ := vrels_one ha
            obtain ⟨u, hu, hr⟩ := typeA_ok hG hm
            refine .same hu fun w _ => ?_
            rw [by_row (e := Extern.ReflectliteType.method Extern.ReflectliteType.elem) hf hb h1 h2 (by kernel_rfl) (by kernel_rfl) (by kernel_rfl) (by kernel_rfl) (by kernel_rfl)]
            have e : Extern.ReflectliteType.method Extern.ReflectliteType.elem #[x'] = (do Extern.ReflectliteType.elem (← Extern.ReflectliteType.ofRtype x')) := rfl
            simp only [e, Sem.run_bind, ofRtype_ok hG ht hp' hx, Result.andThen_ok, Extern.ReflectliteType.elem, pureRun_ok hel, hr]
        · cases he
    · cases he
  all_goals first | (cases he; done) | (rename_i hh; cases hh; done) | skip

theorem relation_ok (hG : GlobOk P φ) {what : String} {g : TypeId → TypeId → Sem Bool} {h h' : AV} {ty t u : TypeId} {b : Bool} {x' y' : Value} (ht : ofHandleA P h = some t) (hu : ofHandleA P h' = some u) (hpt : P.packed t = false) (hpu : P.packed u = false)
    (hr : pureRun P (g u t) = some b) (hx : VRel φ (.agg [h]) x') (hy : VRel φ (.iface ty (.agg [h'])) y') (w : World) : (Extern.ReflectliteType.relation what g #[x', y']).run P w = .ok (.bool b) w := by
  obtain ⟨z, rfl, hz⟩ := hy.iface_inv
  have e : Extern.ReflectliteType.relation what g #[x', .iface ty z] = (do pure (.bool (← g (← Extern.ReflectliteType.ofRtype z) (← Extern.ReflectliteType.ofRtype x')))) := rfl
  simp only [e, Sem.run_bind, ofRtype_ok hG hu hpu hz, ofRtype_ok hG ht hpt hx, Result.andThen_ok, pureRun_ok hr, Sem.run_pure]

theorem rAssignable_ok (hG : GlobOk P φ) (hf : P.funcs[f]? = some fn) (hb : fn.body = none) (h1 : fn.name = "(internal/reflectlite.rtype).AssignableTo") (h2 : fn.origin = "") (he : extCall P .rAssignable fn.resultTypes args A = some (v, A')) (ha : VRels φ args args'.toList) :
    OpOk P φ A (callFunc f args') (.ef v A') := by
  unfold extCall at he
  split at he
  case h_12 h ty h' _ =>
    split at he
    · rename_i t u ht hu
      split at he
      · cases he
      · rename_i hp
        simp only [Bool.or_eq_true, not_or, Bool.not_eq_true] at hp
        cases hr : pureRun P (Extern.ReflectliteType.assignableTo u t) with
        | none => rw [hr] at he; cases he
        | some b =>
          rw [hr] at he
          simp only [Option.map_some, Option.some.injEq, Prod.mk.injEq] at he
          obtain ⟨rfl, rfl⟩ := he
          obtain ⟨x', y', rfl, hx, hy⟩ := vrels_two ha
          refine .same (.bool _) fun w _ => ?_
          rw [by_row (e := Extern.ReflectliteType.relation "AssignableTo" Extern.ReflectliteType.assignableTo) hf hb h1 h2 (by kernel_rfl) (by kernel_rfl) (by kernel_rfl) (by kernel_rfl) (by kernel_rfl), relation_ok hG ht hu hp.1 hp.2 hr hx hy]
          rfl
    · cases he
  all_goals first | (cases he; done) | (rename_i hh; cases hh; done) | skip

theorem rImplements_ok (hG : GlobOk P φ) (hf : P.funcs[f]? = some fn) (hb : fn.body = none) (h1 : fn.name = "(internal/reflectlite.rtype).Implements") (h2 : fn.origin = "") (he : extCall P .rImplements fn.resultTypes args A = some (v, A')) (ha : VRels φ args args'.toList) :
    OpOk P φ A (callFunc f args') (.ef v A') := by
  unfold extCall at he
  split at he
  case h_13 h ty h' _ =>
    split at he
    · rename_i t u ht hu
      split at he
      · cases he
      · rename_i hp
        simp only [Bool.or_eq_true, not_or, Bool.not_eq_true] at hp
        cases hr : pureRun P (Extern.ReflectliteType.implements_ u t) with
        | none => rw [hr] at he; cases he
        | some b =>
          rw [hr] at he
          simp only [Option.map_some, Option.some.injEq, Prod.mk.injEq] at he
          obtain ⟨rfl, rfl⟩ := he
          obtain ⟨x', y', rfl, hx, hy⟩ := vrels_two ha
          refine .same (.bool _) fun w _ => ?_
          rw [by_row (e := Extern.ReflectliteType.relation "Implements" Extern.ReflectliteType.implements_) hf hb h1 h2 (by kernel_rfl) (by kernel_rfl) (by kernel_rfl) (by kernel_rfl) (by kernel_rfl), relation_ok hG ht hu hp.1 hp.2 hr hx hy]
          rfl
    · cases he
  all_goals first | (cases he; done) | (rename_i hh; cases hh; done) | skip

theorem valueOf_ok (hG : GlobOk P φ) (hf : P.funcs[f]? = some fn) (hb : fn.body = none) (h1 : fn.name = "internal/reflectlite.ValueOf") (h2 : fn.origin = "") (he : extCall P .valueOf fn.resultTypes args A = some (v, A')) (ha : VRels φ args args'.toList) :
    OpOk P φ A (callFunc f args') (.ef v A') := by
  unfold extCall at he
  split at he
  case h_5 t x _ =>
    cases hm : mkA P t A.next 0 0 with
    | none => rw [hm] at he; cases he
    | some r =>
      rw [hm] at he
      cases hc : cellsOf P t x with
      | none => rw [hc] at he; cases he
      | some cs =>
        rw [hc] at he
        simp only [Option.bind_some, Option.map_some, Option.some.injEq, Prod.mk.injEq] at he
        obtain ⟨rfl, rfl⟩ := he
        obtain ⟨x', rfl, hx⟩ := vrels_one ha
        obtain ⟨y, rfl, hy⟩ := hx.iface_inv
        obtain ⟨c1, c2, c3, c4⟩ := cellsOf_ok hc hy
        intro w H
        obtain ⟨f1, f2⟩ := H.fresh
        have hle := Phi.le_put φ A.next (w.heap.size, 0, y.cells.size) f1
        obtain ⟨u, u1, u2⟩ := mkA_ok (hG.mono hle) hm (Phi.put_same _ _ _)
        refine ⟨φ.put A.next (w.heap.size, 0, y.cells.size), .value u, u, { w with heap := w.heap.push (.cells y.cells t), drawn := w.drawn }, ?_, .inl rfl,
          H.alloc f1 f2 (AW.get_push A _) (by rw [AW.next_push]; omega) (by rw [AW.next_push]; omega) (ORel.row (c1.mono hle) c2), u1,
          Goes.alloc (n := w.drawn) f1 (AW.get_push A _) (by rw [AW.next_push]; omega) (Nat.le_refl _)⟩
        rw [by_row (e := fun args => Extern.ReflectliteValue.unpack (args.getD 0 (.tuple #[]))) hf hb h1 h2 (by kernel_rfl) (by kernel_rfl) (by kernel_rfl) (by kernel_rfl) (by kernel_rfl)]
        have e : Extern.ReflectliteValue.unpack (#[Value.iface t y].getD 0 (.tuple #[])) = (do Extern.ReflectliteValue.mk t (← newVar t y) 0) := rfl
        rw [Nat.add_zero] at u2
        simp only [e, newVar, newRow, newObj, Sem.run_bind, Sem.run, Result.andThen_ok, Sem.run_pure, u2]
  all_goals first | (cases he; done) | (rename_i hh; cases hh; done) | skip

theorem vSet_ok (hG : GlobOk P φ) (hf : P.funcs[f]? = some fn) (hb : fn.body = none) (h1 : fn.name = "(internal/reflectlite.Value).Set") (h2 : fn.origin = "") (he : extCall P .vSet fn.resultTypes args A = some (v, A')) (ha : VRels φ args args'.toList) :
    OpOk P φ A (callFunc f args') (.ef v A') := by
  unfold extCall at he
  split at he
  case h_10 x y _ =>
    split at he
    · rename_i d a ao fl s b bo fs hpx hpy
      split at he
      · cases he
      · rename_i hfl
        split at he
        · rename_i val hq hda
          cases hc : cellsOf P d val with
          | none => rw [hc] at he; cases he
          | some cs =>
            rw [hc] at he
            simp only [Option.bind_some] at he
            cases hz : szEq P d cs.length with
            | false => rw [hz] at he; cases he
            | true =>
              rw [hz] at he
              simp only [cond_true] at he
              cases hp : putCells A a ao cs with
              | none => rw [hp] at he; cases he
              | some A1 =>
                rw [hp] at he
                simp only [Option.map_some, Option.some.injEq, Prod.mk.injEq] at he
                obtain ⟨rfl, rfl⟩ := he
                obtain ⟨x', y', rfl, hx, hy⟩ := vrels_two ha
                obtain ⟨R, st, l, hφ, _, p2⟩ := partsA_ok hG hpx hx
                obtain ⟨R1, st1, l1, hφ1, _, q2⟩ := partsA_ok hG hpy hy
                intro w H
                obtain ⟨u, u1, u2⟩ := loadA_ok H hφ1 hq
                obtain ⟨c1, c2, c3, c4⟩ := cellsOf_ok hc u1
                obtain ⟨r1, r2, r3⟩ := put_run (P := P) H hp hφ c1 c2
                refine ⟨φ, .value (.tuple #[]), .tuple #[], w.setCells R (st + ao) u.cells.toList, ?_, .inl rfl, r2, .tuple .nil, r3⟩
                rw [by_row (e := Extern.ReflectliteValue.set) hf hb h1 h2 (by kernel_rfl) (by kernel_rfl) (by kernel_rfl) (by kernel_rfl) (by kernel_rfl)]
                have hi := (szEq_ok hz).1
                have hfl' : (fl / Extern.ReflectliteValue.flagAddr % 2 == 0) = false := by
                  simp only [Extern.ReflectliteValue.flagAddr, beq_eq_false_iff_ne]; exact hfl
                have e := (show Extern.ReflectliteValue.set #[x', y'] = (Extern.ReflectliteValue.parts x' >>= fun _ => Extern.ReflectliteValue.parts y' >>= fun _ => _) from rfl)
                simp only [e, Sem.run_bind, p2, q2, Result.andThen_ok, hfl', Bool.false_eq_true, if_false, Sem.run_pure, u2, pureRun_ok hda, if_true, storeVar, sizeOf_ok hi, c4]
                simp only [ne_eq, not_true_eq_false, if_false, Result.andThen_ok, r1]
        · cases he
    · cases he
  all_goals first | (cases he; done) | (rename_i hh; cases hh; done) | skip

end
end
end Go.Ae

/- Functions without a body: all. -/
namespace Go.Ae
open Go

theorem lookup_mem {β : Type} : ∀ {l : List (String × β)} {n : String} {e : β}, l.lookup n = some e → (n, e) ∈ l
  | [], n, e, h => by cases h
  | (m, x) :: l, n, e, h => by
    rw [List.lookup_cons] at h
    split at h
    · rename_i hb
      cases h
      rw [beq_iff_eq.1 hb]
      exact List.mem_cons_self ..
    · exact List.mem_cons_of_mem _ (lookup_mem h)

/-- what has no body and is known is no instance -/
def Origins (P : Program) : Prop := ∀ (f : FuncId) (fn : Func), P.funcs[f]? = some fn → fn.body = none → (extTable.lookup fn.name).isSome = true → fn.origin = ""

theorem exts_ok {P : Program} (hO : Origins P) : ExtsOk P := by
  intro f fn e args A v A' hf hb hl he φ args' ha hG
  have ho := hO f fn hf hb (by rw [hl]; rfl)
  have hm := lookup_mem hl
  simp only [extTable, List.mem_cons, Prod.mk.injEq, List.not_mem_nil, or_false] at hm
  rcases hm with ⟨h1, rfl⟩ | ⟨h1, rfl⟩ | ⟨h1, rfl⟩ | ⟨h1, rfl⟩ | ⟨h1, rfl⟩ | ⟨h1, rfl⟩ | ⟨h1, rfl⟩ | ⟨h1, rfl⟩ | ⟨h1, rfl⟩ | ⟨h1, rfl⟩ | ⟨h1, rfl⟩ | ⟨h1, rfl⟩ | ⟨h1, rfl⟩ | ⟨h1, rfl⟩
  · exact noEscape_ok hf hb h1 ho he ha
  · exact count_ok hf hb h1 ho he ha
  · exact indexByte_ok hf hb h1 ho he ha
  · exact makeNoZero_ok hf hb h1 ho he ha
  · exact valueOf_ok hG hf hb h1 ho he ha
  · exact vType_ok hG hf hb h1 ho he ha
  · exact isNil_ok hG hf hb h1 ho he ha
  · exact typeOf_ok hG hf hb h1 ho he ha
  · exact vElem_ok hG hf hb h1 ho he ha
  · exact vSet_ok hG hf hb h1 ho he ha
  · exact rElem_ok hG hf hb h1 ho he ha
  · exact rAssignable_ok hG hf hb h1 ho he ha
  · exact rImplements_ok hG hf hb h1 ho he ha
  · exact tKind_ok hG hf hb h1 ho he ha

end Go.Ae

/- Short words for values. -/
namespace Go.Ae
open Go
def vI (n : Nat) : AV := .int .i64 (.ofNat n)
def vB (n : Nat) : AV := .int .u8 (.ofNat n)
def vW (n : Nat) : AV := .int .u32 (.ofNat n)
def vP (b o : Nat) : AV := .ptr (some (b, o))
def vS (b o l c z : Nat) (e : Bool) : AV := .slice (some (b, o)) l c z e
def vN : AV := .slice none 0 0 0 true
noncomputable def bs (l : List Nat) : List AV := List.rec (motive := fun _ => List AV) [] (fun a _ ih => vB a :: ih) l
noncomputable def ws (l : List Nat) : List AV := List.rec (motive := fun _ => List AV) [] (fun a _ ih => vW a :: ih) l
def rw0 (ty : TypeId) (cs : List AV) : AObj := .cells ty cs false none

/-- closed facts of a program -/
def numsB (l : List Func) : Bool := match l with
  | [] => true
  | fn :: r => match fn.name == "runtime.NumGoroutine" with
    | true => false
    | false => numsB r
def originsB (l : List Func) : Bool := match l with
  | [] => true
  | fn :: r => match fn.body with
    | some _ => originsB r
    | none => match extTable.lookup fn.name with
      | none => originsB r
      | some _ => match fn.origin == "" with
        | true => originsB r
        | false => false
theorem numsB_mem : ∀ {l : List Func}, numsB l = true → ∀ fn ∈ l, (fn.name == "runtime.NumGoroutine") = false
  | [], _, fn, h => by simp at h
  | f :: r, h, fn, hm => by
    simp only [numsB] at h
    split at h
    · cases h
    · rename_i hf
      rcases List.mem_cons.1 hm with rfl | hm
      · exact hf
      · exact numsB_mem h fn hm
theorem originsB_mem : ∀ {l : List Func}, originsB l = true → ∀ fn ∈ l, fn.body = none → (extTable.lookup fn.name).isSome = true → fn.origin = ""
  | [], _, fn, h => by simp at h
  | f :: r, h, fn, hm => by
    intro hb hs
    simp only [originsB] at h
    split at h
    · rename_i hf
      rcases List.mem_cons.1 hm with rfl | hm
      · rw [hb] at hf; cases hf
      · exact originsB_mem h fn hm hb hs
    · split at h
      · rename_i hl
        rcases List.mem_cons.1 hm with rfl | hm
        · rw [hl] at hs; cases hs
        · exact originsB_mem h fn hm hb hs
      · split at h
        · rename_i ho
          rcases List.mem_cons.1 hm with rfl | hm
          · exact beq_iff_eq.1 ho
          · exact originsB_mem h fn hm hb hs
        · cases h
theorem ground_of {P : Program} (h1 : numsB P.funcs.toList = true) (h2 : originsB P.funcs.toList = true) (h3 : P.follows .mixedOrders = true) : Footing P where
  hN _f fn hf := numsB_mem h1 fn (Array.mem_toList_iff.2 (Array.mem_of_getElem? hf))
  hX := exts_ok fun _f fn hf hb hs => originsB_mem h2 fn (Array.mem_toList_iff.2 (Array.mem_of_getElem? hf)) hb hs
  hm := h3
end Go.Ae

/- Out of a record: the model's calls; what stays as it was. -/
namespace Go.Ae
open Go

theorem calls_of_ok {P : Program} (E : Footing P) {r : List Chunk} (hr : PrimsOk P (oracle r)) {c : Chunk} {fuel : Nat} (hc : c.ok P r fuel = true) {φ : Phi} {w : World} {args' : Array Value} (ha : VRels φ c.args args'.toList)
    (H : HRel φ (setAll c.pre ⟨.nil, c.next⟩) w.heap) (hG : GlobOk P φ) :
    Calls P c.f args' w fun e w' => ∃ v' φ' A', e = .returned v' ∧ VRel φ' c.v v' ∧ HRel φ' A' w'.heap ∧ Goes c.next φ (setAll c.pre ⟨.nil, c.next⟩) w φ' A' w' := by
  unfold Chunk.ok at hc
  split at hc
  · cases hc
  rename_i hsib
  split at hc
  · cases hc
  rename_i cal hcal
  split at hc
  rotate_left
  · cases hc
  rename_i v tk Af hrun
  simp only [Bool.and_eq_true] at hc
  obtain ⟨⟨⟨hv, hn⟩, hpost⟩, hkept⟩ := hc
  have hv := AV.beq_eq _ _ hv
  refine (calls_of_run E.hN hr E.hX (draws P _ E.hm E.hN hr E.hX) hcal hrun ha H hG).mono fun e w' h => ?_
  cases e <;> try exact h.elim
  rename_i v'
  obtain ⟨φ', h1, h2, h3⟩ := h
  rw [setAll_next] at h3
  exact ⟨v', φ', Af, rfl, by rw [← hv]; exact h1, h2, h3⟩

/-- a call that could write nothing that was there has written nothing that was there -/
theorem kept_of_goes {lo : Nat} {φ φ' : Phi} {A A' : AW} {w w' : World} (G : Goes lo φ A w φ' A' w') (hro : ∀ b o, A.get b = some o → o.ro = true) (may : MemPlace → Prop) : w.keptBut w' may := by
  refine ⟨G.os, G.output, fun i hi => ?_⟩
  have hk : w'.heap[i]? = w.heap[i]? := G.keep i hi fun b o s l hg hr => by rw [hro b o hg] at hr; cases hr
  rw [hk]
  cases hh : w.heap[i]? with
  | none => rfl
  | some o => cases o <;> first | rfl | exact ⟨rfl, rfl, rfl, fun _ _ => rfl⟩ | exact .inr ⟨rfl, rfl⟩

end Go.Ae
