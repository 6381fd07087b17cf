import Derived.Test.YtmoblhikociccaaGreatDoorAeA
import Derived.Laws.MakeOwn
import Derived.Great.BuildSlice
import Derived.Deep.Upon
import Derived.KernelRfl
/- The evaluator and its simulation, part 2. -/
/- Conversions, small builtins, checks. -/
namespace Go.Ae
open Go
section
variable {P : Program} {φ : Phi} {A : AW}

theorem bytesOfStr_encode (s : ByteArray) : VRel φ (.str (bytesOfStr s)) (.string s) := .str s

theorem hConv_ok {src dst : TypeId} {x : AV} {x' : Value} (hs : (P.underlying src).isSome = true) (hx : VRel φ x x') : OpOk P φ A (do pure (.value (← convert src dst x'))) (hConv P src dst x) := by
  obtain ⟨sd, hsd⟩ := Option.isSome_iff_exists.1 hs
  cases hx
  case int k0 n =>
    simp only [hConv]
    split
    · rename_i k hd
      refine .gives ⟨_, .int _ _, fun w => ?_⟩
      simp only [convert, Sem.run_bind, run_underlying hsd, run_underlying hd, Result.andThen_ok, Conv.intToInt, Sem.run_pure, wrapF_eq]
    · rename_i hd
      refine .gives ⟨_, .str _, fun w => ?_⟩
      simp only [convert, Sem.run_bind, run_underlying hsd, run_underlying hd, Result.andThen_ok, Conv.intToString, Sem.run_pure]
    · simp only [AV.sc]
      exact .ofVal fun r h => pureBind_ok h
    · trivial
  case str s =>
    simp only [hConv]
    split
    · rename_i hd
      refine .gives ⟨_, .str _, fun w => ?_⟩
      simp only [convert, Sem.run_bind, run_underlying hsd, run_underlying hd, Result.andThen_ok, Sem.run_pure]
    · rename_i e hd
      split
      · rename_i he
        cases hq : (Nat.beq (sz P e) 1 && Nat.ble (bytesOfStr s).length 35184372088832) with
        | false => trivial
        | true =>
          simp only [cond_true]
          intro w
          obtain ⟨obj, u, n, s', l, h1, h2⟩ := strBytes_ok (P := P) (φ := φ) (e := e) (s := s) w
          exact ⟨obj, u, n, s', l, by simp only [convert, Sem.run_bind, run_underlying hsd, run_underlying hd, run_underlying he, Result.andThen_ok, h1, Sem.run_pure], h2⟩
      · trivial
    · trivial
  case ptrNil =>
    simp only [hConv]
    split
    · rename_i u hs' hd
      refine .gives ⟨_, .ptrNil, fun w => ?_⟩
      simp only [convert, Sem.run_bind, run_underlying hs', run_underlying hd, Result.andThen_ok, Conv.unsafePointer, Sem.run_pure]
    · rename_i t hs' hd
      refine .gives ⟨_, .ptrNil, fun w => ?_⟩
      simp only [convert, Sem.run_bind, run_underlying hs', run_underlying hd, Result.andThen_ok, Conv.unsafePointer, Sem.run_pure]
    · trivial
  case ptr b off R s l hφ =>
    simp only [hConv]
    split
    · rename_i u hs' hd
      exact .read (shown_ok hs' hd (.ptr hφ))
    · rename_i t hs' hd
      exact .read (seen_ok hs' hd (.ptr hφ))
    · trivial
  case sliceNil len cap z ex =>
    simp only [hConv]
    split
    · rename_i e hs' hd
      split
      · rename_i he
        exact .read (bytes_ok hs' hd he (.inl rfl) (.sliceNil len cap z ex))
      · trivial
    · trivial
  case slice b off len cap cap' z R s l ex a hφ hc hex hl hb ha =>
    simp only [hConv]
    split
    · rename_i e hs' hd
      split
      · rename_i he
        simp only [Option.isNone_some, Bool.false_or]
        cases hz : Nat.beq z 1 with
        | false => trivial
        | true => exact .read (bytes_ok hs' hd he (.inr (Nat.eq_of_beq_eq_true hz)) (.slice hφ hc hex hl hb ha))
      · trivial
    · trivial
  all_goals
    simp only [hConv, AV.sc]
    first
      | trivial
      | exact .ofVal fun r h => pureBind_ok h

theorem hNil_ok {x : AV} {x' : Value} {r : AV} (h : hNil x = some r) (hx : VRel φ x x') : VRel φ r x' ∧ (∀ a, x' = .pointer a → a ≠ none) ∧ (x' ≠ .nilIface) ∧ (x' ≠ .nilFunc) ∧ (∀ n f c, x' ≠ .func (.method n) f c) := by
  cases hx <;> simp only [hNil, reduceCtorEq, Option.some.injEq] at h <;> subst h
  · exact ⟨by constructor; assumption, by simp, by simp, by simp, by simp⟩
  · exact ⟨by constructor <;> assumption, by simp, by simp, by simp, by simp⟩
  · exact ⟨by constructor; assumption, by simp, by simp, by simp, by simp⟩

theorem hFunc_ok {fn : Fn} {x c : List AV} {x' c' : Array Value} {r : AV} (h : hFunc fn x c = some r) (hx : VRels φ x x'.toList) (hc : VRels φ c c'.toList) : Gives P φ r (Instr.makeFunc fn x' c') := by
  cases fn <;> simp only [hFunc, reduceCtorEq, Option.some.injEq] at h
  subst h
  exact ⟨_, .func hx hc, fun w => rfl⟩

theorem goInt_rel (n : Nat) : VRel φ (.int .i64 (Int.ofNat n)) (goInt n) := .int _ _

theorem hLen_ok {ty t : TypeId} {ts : Array TypeId} {x : AV} {args : Array Value} {x' : Value} (ht : ts[0]? = some t) (ha : args[0]? = some x') (hl : lenT P t x = true) (hx : VRel φ x x') :
    OpOk P φ A (do pure (.value (← Builtin.len_ ts ty args))) (hLen x) := by
  unfold lenT at hl
  split at hl
  · rename_i hu
    obtain ⟨s, rfl, rfl⟩ := hx.str_inv
    simp only [hLen]
    exact ⟨_, .int _ _, fun w => by rw [bytesOfStr_length]; simp only [Builtin.len_, ht, ha, Sem.run_bind, run_underlying hu, Result.andThen_ok, Sem.run_pure]; rfl⟩
  · rename_i e hu
    cases hx
    · simp only [hLen]
      exact ⟨_, .int _ _, fun w => by simp only [Builtin.len_, ht, ha, Sem.run_bind, run_underlying hu, Result.andThen_ok, Sem.run_pure]; rfl⟩
    · simp only [hLen]
      exact ⟨_, .int _ _, fun w => by simp only [Builtin.len_, ht, ha, Sem.run_bind, run_underlying hu, Result.andThen_ok, Sem.run_pure]; rfl⟩
  · rename_i k e hu
    cases hx
    · simp only [hLen]
      exact ⟨_, .int _ _, fun w => by simp only [Builtin.len_, ht, ha, Sem.run_bind, run_underlying hu, Result.andThen_ok, Sem.run_pure]; rfl⟩
    · rename_i b R s l hφ
      simp only [hLen]
      intro A w v H hv
      simp only [evalRq] at hv
      split at hv
      · rename_i es clock hA
        simp only [Option.some.injEq] at hv
        subst hv
        obtain ⟨en, e1, e2, _, _⟩ := H.map hφ hA
        refine ⟨goInt en.size, ?_, ?_⟩
        · have := e2.length
          simp only [Array.length_toList] at this
          rw [this]
          exact .int _ _
        · simp only [Builtin.len_, ht, ha, Sem.run_bind, run_underlying hu, Result.andThen_ok, run_getObj e1 (by simp), Sem.run_pure]
      · cases hv
  · cases hl

theorem hCap_ok {ty t e : TypeId} {ts : Array TypeId} {x r : AV} {args : Array Value} {x' : Value} (ht : ts[0]? = some t) (ha : args[0]? = some x') (hu : P.underlying t = some (.slice e)) (h : hCap x = some r) (hx : VRel φ x x') :
    Gives P φ r (Builtin.cap_ ts ty args) := by
  cases hx <;> simp only [hCap, reduceCtorEq, Option.some.injEq] at h
  · subst h
    exact ⟨goInt 0, .int _ _, fun w => by simp only [Builtin.cap_, ht, ha, Sem.run_bind, run_underlying hu, Result.andThen_ok, Sem.run_pure]; rfl⟩
  · rename_i b off len cap cap' z R s l ex a hφ hc hex hl hb hadr
    cases ex with
    | false => cases h
    | true =>
      simp only [cond_true, Option.some.injEq] at h
      subst h
      have := hex rfl
      subst this
      exact ⟨goInt cap, .int _ _, fun w => by simp only [Builtin.cap_, ht, ha, Sem.run_bind, run_underlying hu, Result.andThen_ok, Sem.run_pure]⟩

end
end Go.Ae

/- Fresh blocks. -/
namespace Go.Ae
open Go

theorem reps_length {n : Nat} {z : List AV} : (reps n z).length = n * z.length := by
  induction n with
  | zero => simp [reps]
  | succ n ih => simp [reps, ih, Nat.add_mul, Nat.add_comm]
theorem reps_get {z : List AV} : ∀ (n i : Nat), i < n * z.length → (reps n z)[i]? = z[i % z.length]?
  | 0, i, h => by omega
  | n + 1, i, h => by
    simp only [reps]
    rw [Nat.add_mul, Nat.one_mul] at h
    by_cases hi : i < z.length
    · rw [List.getElem?_append_left hi, Nat.mod_eq_of_lt hi]
    · have hge : z.length ≤ i := Nat.le_of_not_lt hi
      rw [List.getElem?_append_right hge, reps_get n (i - z.length) (by omega), Nat.mod_eq_sub_mod hge]

theorem fill_length {place : Nat → Option (Nat × Nat)} : ∀ {ps : List (Nat × AV)} {q r : List AV}, fill place q ps = some r → r.length = q.length
  | [], q, r, h => by simp only [fill, Option.some.injEq] at h; rw [h]
  | p :: ps, q, r, h => by
    obtain ⟨i, v⟩ := p
    simp only [fill] at h
    split at h
    · cases h
    · rename_i off size hpl
      split at h
      · rename_i vs hvs
        cases hb : Nat.beq vs.length size with
        | false => rw [hb] at h; cases h
        | true =>
          rw [hb] at h
          simp only [cond_true] at h
          split at h
          · rename_i cs1 hpa
            rw [fill_length h]
            exact (paste_some _ _ _ _ hpa).2.1
          · cases h
      · cases h

section
variable {P : Program} {φ : Phi} {A : AW}

/-- the cells of a row of zero values -/
theorem reps_ok {z : List AV} {zc : Array Value} {m : Nat} (hz : VRels φ z zc.toList) (hf : ∀ u ∈ zc.toList, Flat u) (hm : zc.size = m) (h0 : 0 < m) (n : Nat) :
    VRels φ (reps n z) ((Array.range (n * m)).map (fun k => zc[k % zc.size]!)).toList ∧ ∀ u ∈ ((Array.range (n * m)).map (fun k => zc[k % zc.size]!)).toList, Flat u := by
  have hl : z.length = m := by rw [hz.length]; simpa using hm
  have get : ∀ i v, ((Array.range (n * m)).map (fun k => zc[k % zc.size]!)).toList[i]? = some v → i < n * m ∧ zc[i % m]? = some v := by
    intro i v h
    simp only [Array.getElem?_toList, Array.getElem?_map, Array.getElem?_range] at h
    split at h
    · rename_i hi
      simp only [Option.map_some, Option.some.injEq] at h
      refine ⟨hi, ?_⟩
      rw [hm] at h
      have hlt : i % m < zc.size := by rw [hm]; exact Nat.mod_lt _ h0
      rw [Array.getElem?_eq_getElem hlt, ← h, getElem!_pos zc (i % m) hlt]
    · cases h
  refine ⟨VRels.of_get ?_ fun i x y hx hy => ?_, fun u hu => ?_⟩
  · rw [reps_length, hl]; simp
  · obtain ⟨h1, h2⟩ := get i y hy
    rw [reps_get n i (by rw [hl]; exact h1), hl] at hx
    obtain ⟨y', e1, e2⟩ := hz.get _ _ hx
    simp only [Array.getElem?_toList, h2] at e1
    cases e1
    exact e2
  · obtain ⟨i, hi⟩ := List.getElem?_of_mem hu
    obtain ⟨_, h2⟩ := get i u hi
    exact hf u (List.mem_of_getElem? (i := i % m) (by simpa using h2))

/-- a fresh row -/
theorem ORel.row {e : TypeId} {cs : List AV} {c : Array Value} (hv : VRels φ cs c.toList) (hf : ∀ u ∈ c.toList, Flat u) : ORel φ (.cells e cs false none) (.cells c e) 0 c.size := by
  have hl := hv.length
  simp only [Array.length_toList] at hl
  refine .cells (.inr ⟨rfl, rfl⟩) (by omega) (by omega) ?_ ?_ (fun _ => .inl (Nat.le_refl _))
  · rw [hl, List.drop_zero, List.take_of_length_le (by simp)]; exact hv
  · intro u hu; exact hf u (List.mem_of_mem_drop (List.mem_of_mem_take hu))

theorem hAlloc_ok {t : TypeId} : OpOk P φ A (do pure (.value (← Instr.alloc t true (.tuple #[])))) (hAlloc P t) := by
  unfold hAlloc
  split
  · rename_i z hz
    intro w
    obtain ⟨v, i, h1, h2, h3, h4, h5, h6, h7⟩ := zeroC_ok (φ := φ) hz
    refine ⟨.cells v.cells t, .pointer (some ⟨w.heap.size, 0, none⟩), w.drawn, 0, v.cells.size, ?_, fun b hb => ⟨ORel.row (h3.mono (Phi.le_put _ _ _ hb)) h4, ?_⟩⟩
    · simp only [Instr.alloc, Sem.run_bind, h7, Result.andThen_ok, newVar, newRow, newObj, Sem.run, Sem.run_pure]
    · have := VRel.ptr (off := 0) (Phi.put_same φ b (w.heap.size, 0, v.cells.size))
      simpa using this
  · trivial

theorem hBox_ok {t : TypeId} {x : AV} {x' : Value} (hx : VRel φ x x') : OpOk P φ A (do pure (.value (← Instr.box t x'))) (hBox P t x) := by
  unfold hBox
  split
  · rename_i cs hc
    intro w
    obtain ⟨h1, h2, h3, h4⟩ := cellsOf_ok hc hx
    refine ⟨.cells x'.cells t, .pointer (some ⟨w.heap.size, 0, none⟩), w.drawn, 0, x'.cells.size, ?_, fun b hb => ⟨ORel.row (h1.mono (Phi.le_put _ _ _ hb)) h2, ?_⟩⟩
    · simp only [Instr.box, Sem.run_bind, Result.andThen_ok, newVar, newRow, newObj, Sem.run, Sem.run_pure]
    · have := VRel.ptr (off := 0) (Phi.put_same φ b (w.heap.size, 0, x'.cells.size))
      simpa using this
  · trivial

theorem hMakeMap_ok {t : TypeId} {r : Option AV} {r' : Option Value} (hr : ORelV φ r r') : OpOk P φ A (do pure (.value (← Instr.makeMap t r'))) (hMakeMap r) := by
  cases r with
  | some _ => trivial
  | none =>
    cases r' with
    | some _ => exact hr.elim
    | none =>
      intro w
      refine ⟨.map #[] 0, .map (some w.heap.size), w.drawn, 0, 0, ?_, fun b hb => ⟨.map .nil, .map (Phi.put_same _ _ _)⟩⟩
      simp only [Instr.makeMap, Sem.run_bind, Result.andThen_ok, newObj, Sem.run, Sem.run_pure]

theorem hBuildSlice_ok {t : TypeId} {len : Nat} {ps : List (Nat × AV)} {ps' : Array (Nat × Value)} (hp : PRel φ ps ps'.toList) :
    OpOk P φ A (do pure (.value (← Instr.buildSlice t len ps'))) (hBuildSlice P t len ps) := by
  unfold hBuildSlice
  split
  · rename_i e hu
    cases hq : (Nat.beq (sz P e) 0 || Nat.blt 16777216 (Nat.mul len (sz P e))) with
    | true => trivial
    | false =>
      simp only [Bool.or_eq_false_iff] at hq
      have h0 := Nat.ne_of_beq_eq_false hq.1
      have hle := blt_ge hq.2
      simp only [Nat.mul_eq] at hle
      simp only [cond_false]
      split
      · rename_i z hz
        split
        · rename_i cs hcs
          intro w
          obtain ⟨v, i, h1, h2, h3, h4, h5, h6, h7⟩ := zeroC_ok (φ := φ) hz
          obtain ⟨r1, r2⟩ := reps_ok h3 h4 h6 (by omega) len
          obtain ⟨c, f1, f2, f3⟩ := fill_ok hcs hp r1 r2
          simp only [Nat.mul_eq] at f1
          refine ⟨.cells c e, .slice (some ⟨w.heap.size, 0, none⟩) len len, w.drawn, 0, c.size, ?_, fun b hb => ⟨ORel.row (f2.mono (Phi.le_put _ _ _ hb)) f3, ?_⟩⟩
          · have hsz : (sizeOf e).run P w = .ok (sz P e) w := sizeOf_ok (sz_info h0) w
            simp only [Instr.buildSlice, Sem.run_bind, run_underlying hu, hsz, Result.andThen_ok]
            rw [if_neg (by omega)]
            by_cases hn : len * sz P e = 0
            · have hl0 : len = 0 := by
                rcases Nat.mul_eq_zero.1 hn with h | h
                · exact h
                · exact absurd h h0
              subst hl0
              simp only [Nat.zero_mul, if_true, Sem.run_bind, Sem.run_pure, Result.andThen_ok]
              simp only [Nat.zero_mul] at f1
              have e0 : (Array.range 0).map (fun k => (#[] : Array Value)[k % (#[] : Array Value).size]!) = (Array.range 0).map (fun k => v.cells[k % v.cells.size]!) := by simp
              rw [e0, f1]
              simp only [newRow, newObj, Sem.run_bind, Sem.run, Result.andThen_ok, Sem.run_pure]
            · simp only [hn, if_false, Sem.run_bind, h7, Result.andThen_ok, Sem.run_pure, f1, newRow, newObj, Sem.run]
          · have hcl : c.size = len * sz P e := by
              have a1 := f2.length
              have a2 := fill_length hcs
              rw [reps_length, h5] at a2
              simp only [Array.length_toList] at a1
              omega
            exact .slice (Phi.put_same _ _ _) (Nat.le_refl _) (fun _ => rfl) (Nat.le_refl _) (by omega) (fun _ => rfl)
        · trivial
      · trivial
  · trivial

theorem hMakeSlice_ok {t : TypeId} {l c : AV} {l' c' : Value} (hl : VRel φ l l') (hc : VRel φ c c') : OpOk P φ A (do pure (.value (← Instr.makeSlice t l' c'))) (hMakeSlice P t l c) := by
  unfold hMakeSlice
  split
  · rename_i e hu
    split
    · rename_i n hn
      split
      · rename_i m hm
        cases hq : (Nat.ble n m && Nat.ble (Nat.mul (P.bytesOf e) m) 281474976710656 && Nat.ble m 281474976710656 && !Nat.beq (sz P e) 0) with
        | false => trivial
        | true =>
          simp only [Bool.and_eq_true, Bool.not_eq_true'] at hq
          obtain ⟨⟨⟨q1, q2⟩, q3⟩, q4⟩ := hq
          have q1 := Nat.le_of_ble_eq_true q1
          have q2 := Nat.le_of_ble_eq_true q2
          have q3 := Nat.le_of_ble_eq_true q3
          have h0 := Nat.ne_of_beq_eq_false q4
          simp only [Nat.mul_eq] at q2
          simp only [cond_true]
          split
          · rename_i z hz
            intro w
            obtain ⟨v, i, h1, h2, h3, h4, h5, h6, h7⟩ := zeroC_ok (φ := φ) hz
            obtain ⟨kl, rfl⟩ := asNat_ok hn hl
            obtain ⟨kc, rfl⟩ := asNat_ok hm hc
            have hsz : i.size = sz P e := by simp [sz, Program.cellsOf, h1]
            have hby : P.bytesOf e = i.bytes := by simp [Program.bytesOf, h1]
            obtain ⟨r1, r2⟩ := reps_ok h3 h4 h6 (by omega) m
            have hrun := run_make (P := P) w t e i v hu h1 h2 kl kc n m (by omega) (by omega) (by rw [hby] at q2; omega) (by omega)
            have hcells : madeCells v.cells (m * sz P e) = (Array.range (m * sz P e)).map (fun k => v.cells[k % v.cells.size]!) := rfl
            simp only [Int.toNat_natCast, hsz, hcells] at hrun
            refine ⟨.cells ((Array.range (m * sz P e)).map (fun k => v.cells[k % v.cells.size]!)) e, .slice (some ⟨w.heap.size, 0, none⟩) n m, w.drawn, 0, m * sz P e, ?_, fun b hb => ⟨?_, ?_⟩⟩
            · simp only [Sem.run_bind, hrun, Result.andThen_ok, Sem.run_pure]
              rfl
            · have := ORel.row (e := e) (r1.mono (Phi.le_put φ b (w.heap.size, 0, m * sz P e) hb)) r2
              simpa using this
            · exact .slice (Phi.put_same _ _ _) (Nat.le_refl _) (fun _ => rfl) q1 (by omega) (fun _ => rfl)
          · trivial
      · trivial
    · trivial
  · trivial

end
end Go.Ae

/- Effects: a fresh block, a written variable, an object put in another's place; maps. -/
namespace Go.Ae
open Go
section
variable {P : Program} {φ : Phi} {A : AW}

theorem HRel.fresh {h : Array Obj} (H : HRel φ A h) : φ A.next = none ∧ A.get A.next = none := by
  constructor
  · cases hp : φ A.next with
    | none => rfl
    | some x => obtain ⟨R, s, l⟩ := x; have := (H.dom _ _ _ _ hp).1; omega
  · cases hp : A.get A.next with
    | none => rfl
    | some o => have := H.low _ _ hp; omega

/-- a fresh block, at the next of the abstract numbers -/
theorem OpOk.push {m : Sem Next} {v : AV} {ob : AObj} (h : ∀ w, HRel φ A w.heap → ∃ obj u n s l, m.run P w = .ok (.value u) { w with heap := w.heap.push obj, drawn := n } ∧
    ORel (φ.put A.next (w.heap.size, s, l)) ob obj s l ∧ VRel (φ.put A.next (w.heap.size, s, l)) v u) : OpOk P φ A m (.ef v (A.push ob)) := by
  intro w H
  obtain ⟨obj, u, n, s, l, h1, h2, h3⟩ := h w H
  obtain ⟨f1, f2⟩ := H.fresh
  refine ⟨φ.put A.next (w.heap.size, s, l), .value u, u, _, h1, .inl rfl, ?_, h3, ?_⟩
  · exact H.alloc f1 f2 (AW.get_push A ob) (by rw [AW.next_push]; omega) (by rw [AW.next_push]; omega) h2
  · exact Goes.alloc f1 (AW.get_push A ob) (by rw [AW.next_push]; omega) (Nat.le_refl _)

/-- an object in another's place -/
theorem HRel.setObj {lo : Nat} {w : World} (H : HRel φ A w.heap) {b R s l : Nat} {o o' : AObj} {obj' : Obj} (hφ : φ b = some (R, s, l)) (hb : A.get b = some o) (hr : o.ro = false) (hs : o.sib = none) (_hr' : o'.ro = false) (ho : ORel φ o' obj' s l) :
    HRel φ (A.set b (some o')) (w.heap.setIfInBounds R obj') ∧ Goes lo φ A w φ (A.set b (some o')) { w with heap := w.heap.setIfInBounds R obj' } := by
  have hR : R < w.heap.size := (H.dom b R s l hφ).2
  have only : ∀ x p s1 l1, x ≠ b → A.get x = some p → φ x ≠ some (R, s1, l1) := by
    intro x p s1 l1 hx hp he
    rcases H.sep b x o p R s l s1 l1 (Ne.symm hx) hb hp hφ he with h | h
    · rw [hr] at h; cases h.1
    · rw [hs] at h; cases h.1
  refine ⟨⟨fun x p hx => ?_, fun x R1 s1 l1 hx => ?_, fun x p hx => ?_, fun x x' p p' R1 s1 l1 s2 l2 hne hx hx' hf hf' => ?_⟩, ⟨Phi.le_refl _, by simp [AW.next_set], by simp, fun R1 hR1 hn => ?_, fun x p R1 s1 l1 hx hrx hf _ => ?_, fun x p R1 s1 l1 hx hf _ => ?_, fun x R1 s1 l1 h1 h2 => (by rw [h2] at h1; cases h1), rfl, rfl, rfl⟩⟩
  · rw [AW.get_set] at hx
    rw [AW.next_set]
    split at hx
    · rename_i he; rw [he]; exact H.low _ _ hb
    · exact H.low _ _ hx
  · rw [AW.next_set]; simp only [Array.size_setIfInBounds]; exact H.dom x R1 s1 l1 hx
  · rw [AW.get_set] at hx
    split at hx
    · rename_i he
      subst he
      cases hx
      exact ⟨R, s, l, obj', hφ, by simp [hR], ho⟩
    · rename_i he
      obtain ⟨R1, s1, l1, obj, e1, e2, e3⟩ := H.con x p hx
      refine ⟨R1, s1, l1, obj, e1, ?_, e3⟩
      rw [Array.getElem?_setIfInBounds_ne (fun h => by subst h; exact only x p s1 l1 he hx e1)]
      exact e2
  · rw [AW.get_set] at hx hx'
    split at hx
    · rename_i he
      subst he
      rw [hφ] at hf
      cases hf
      rw [if_neg (Ne.symm hne)] at hx'
      exact absurd hf' (only x' p' s2 l2 (Ne.symm hne) hx')
    · rename_i he
      split at hx'
      · rename_i he'
        subst he'
        rw [hφ] at hf'
        cases hf'
        exact absurd hf (only x p s1 l1 hne hx)
      · exact H.sep x x' p p' R1 s1 l1 s2 l2 hne hx hx' hf hf'
  · by_cases he : R1 = R
    · subst he; exact absurd hφ (hn b o s l hb hr)
    · simp only [Array.getElem?_setIfInBounds_ne (Ne.symm he)]
  · rw [AW.get_set] at hx
    split at hx
    · rename_i he
      subst he
      exact ⟨x, o, s1, l1, hb, hr, hf⟩
    · exact ⟨x, p, s1, l1, hx, hrx, hf⟩
  · rw [AW.get_set] at hx
    split at hx
    · rename_i he
      subst he
      exact ⟨x, o, s1, l1, hb, hf⟩
    · exact ⟨x, p, s1, l1, hx, hf⟩

theorem run_setObj {w : World} {R : Nat} {o o' : Obj} (h : w.heap[R]? = some o) (hn : ∀ c e f, o ≠ .cells c e f) : (setObj R o').run P w = .ok () { w with heap := w.heap.setIfInBounds R o' } := by
  unfold setObj
  simp only [Sem.run, h]

theorem AllRel.push {α β : Type} {R : α → β → Prop} {x : List α} {y : List β} (h : AllRel R x y) {a : α} {b : β} (r : R a b) : AllRel R (x ++ [a]) (y ++ [b]) := h.append (.cons r .nil)
theorem AllRel.modAt {φ : Phi} : ∀ {x : List (AV × AV × Nat)} {y : List MapEntry}, AllRel (ERel φ) x y → ∀ (i : Nat) (f : AV × AV × Nat → AV × AV × Nat) (g : MapEntry → MapEntry),
    (∀ a b, x[i]? = some a → y[i]? = some b → ERel φ a b → ERel φ (f a) (g b)) → AllRel (ERel φ) (Ae.modAt x i f) (y.modify i g)
  | _, _, .nil, i, f, g, h => by cases i <;> exact .nil
  | _, _, .cons r t, 0, f, g, h => by simp only [Ae.modAt, List.modify_zero_cons]; exact .cons (h _ _ rfl rfl r) t
  | _, _, .cons r t, i + 1, f, g, h => by
    simp only [Ae.modAt, List.modify_succ_cons]
    exact .cons r (AllRel.modAt t i f g fun a b ha hb hr => h a b (by simpa using ha) (by simpa using hb) hr)

theorem simple_eq : ∀ (d : Nat) (k : AV) (u v : Value), simpleKey d k = true → VRel φ k u → VRel φ k v → u = v ∧ ∀ n, d ≤ n → Instr.sameBits n u v = true
  | 0, k, u, v, h, _, _ => by simp [simpleKey] at h
  | d + 1, k, u, v, h, hu, hv => by
    cases k <;> simp only [simpleKey, Bool.false_eq_true] at h
    · cases hu; cases hv; exact ⟨rfl, fun n _ => by cases n <;> simp [Instr.sameBits]⟩
    · cases hu; cases hv; exact ⟨rfl, fun n _ => by cases n <;> simp [Instr.sameBits]⟩
    · obtain ⟨s, rfl, h1⟩ := hu.str_inv
      obtain ⟨s', rfl, h2⟩ := hv.str_inv
      have he : s = s' := by
        have := bytesOfStr_inj (h1.symm.trans h2)
        cases s; cases s'; simp only [ByteArray.mk.injEq]; exact Array.ext' this
      subst he
      refine ⟨rfl, fun n _ => by cases n <;> simp [Instr.sameBits, beq_toListBytes]⟩
    · rename_i cs
      obtain ⟨u', rfl, hu', _⟩ := hu.agg_inv
      obtain ⟨v', rfl, hv', _⟩ := hv.agg_inv
      have key : ∀ (cs : List AV) (us vs : List Value), (cs.all (simpleKey d)) = true → VRels φ cs us → VRels φ cs vs → us = vs ∧ ∀ n, d ≤ n → ((us.zip vs).all fun (x, y) => Instr.sameBits n x y) = true := by
        intro cs
        induction cs with
        | nil => intro us vs _ h1 h2; cases h1; cases h2; exact ⟨rfl, fun n _ => rfl⟩
        | cons c cs ih =>
          intro us vs hc h1 h2
          cases us with
          | nil => cases h1
          | cons y ys =>
          cases vs with
          | nil => cases h2
          | cons x xs =>
          simp only [List.all_cons, Bool.and_eq_true] at hc
          obtain ⟨e1, e2⟩ := simple_eq d c y x hc.1 (by cases h1; assumption) (by cases h2; assumption)
          obtain ⟨e3, e4⟩ := ih ys xs hc.2 (by cases h1; assumption) (by cases h2; assumption)
          refine ⟨by rw [e1, e3], fun n hn => ?_⟩
          simp only [List.zip_cons_cons, List.all_cons, Bool.and_eq_true]
          exact ⟨e2 n hn, e4 n hn⟩
      obtain ⟨e1, e2⟩ := key cs u'.toList v'.toList h hu' hv'
      have he : u' = v' := Array.ext' e1
      subst he
      refine ⟨rfl, fun n hn => ?_⟩
      cases n with
      | zero => omega
      | succ n => simp only [Instr.sameBits, BEq.rfl, Bool.true_and]; exact e2 n (by omega)

end

mutual
theorem AV.beq_eq : ∀ (a b : AV), AV.beq a b = true → a = b
  | a, b, h => by
    cases a <;> cases b <;> simp only [AV.beq, Bool.and_eq_true, decide_eq_true_eq, beq_iff_eq, Bool.false_eq_true] at h <;> first
      | rfl
      | (subst h; rfl)
      | skip
    · obtain ⟨rfl, rfl⟩ := h; rfl
    · obtain ⟨rfl, h⟩ := h; rw [Nat.eq_of_beq_eq_true h]
    · obtain ⟨⟨rfl, h⟩, h'⟩ := h; rw [Nat.eq_of_beq_eq_true h, Nat.eq_of_beq_eq_true h']
    · obtain ⟨⟨⟨⟨rfl, h1⟩, h2⟩, h3⟩, rfl⟩ := h; rw [Nat.eq_of_beq_eq_true h1, Nat.eq_of_beq_eq_true h2, Nat.eq_of_beq_eq_true h3]
    · obtain ⟨⟨h1, h2⟩, h3⟩ := h; rw [Nat.eq_of_beq_eq_true h1, AV.beqs_eq _ _ h2, AV.beqs_eq _ _ h3]
    · rw [Nat.eq_of_beq_eq_true h]
    · obtain ⟨h1, h2⟩ := h; rw [Nat.eq_of_beq_eq_true h1, AV.beq_eq _ _ h2]
    · rw [AV.beqs_eq _ _ h]
    · rw [AV.beqs_eq _ _ h]
theorem AV.beqs_eq : ∀ (a b : List AV), AV.beqs a b = true → a = b
  | [], [], _ => rfl
  | [], _ :: _, h => by simp [AV.beqs] at h
  | _ :: _, [], h => by simp [AV.beqs] at h
  | a :: x, b :: y, h => by
    simp only [AV.beqs, Bool.and_eq_true] at h
    rw [AV.beq_eq _ _ h.1, AV.beqs_eq _ _ h.2]
end

end Go.Ae

/- Stores, maps, iterators. -/
namespace Go.Ae
open Go
section
variable {P : Program} {φ : Phi} {A : AW}

theorem OpOk.ofEf {m : Sem Next} {o : Option (AV × AW)} (h : ∀ v A', o = some (v, A') → OpOk P φ A m (.ef v A')) : OpOk P φ A m (.ofEf o) := by
  cases o with
  | none => trivial
  | some p => exact h p.1 p.2 rfl

theorem hRange_ok {t : TypeId} {x : AV} {x' : Value} (hx : VRel φ x x') : OpOk P φ A (do pure (.value (← Instr.range t x'))) (hRange P A t x) := by
  unfold hRange
  split
  · obtain ⟨s, rfl, rfl⟩ := hx.str_inv
    split
    · rename_i hu
      intro w
      refine ⟨.stringIter s 0, .pointer (some ⟨w.heap.size, 0, none⟩), w.drawn, 0, 0, ?_, fun b hb => ⟨.siter s 0, ?_⟩⟩
      · simp only [Instr.range, Sem.run_bind, run_underlying hu, Result.andThen_ok, newObj, Sem.run, Sem.run_pure]
      · have := VRel.ptr (off := 0) (Phi.put_same φ b (w.heap.size, 0, 0))
        simpa using this
    · trivial
  · cases hx
    split
    · rename_i k e hu
      intro w
      refine ⟨.mapIter none 0 #[] 0, .pointer (some ⟨w.heap.size, 0, none⟩), w.drawn, 0, 0, ?_, fun b hb => ⟨.miterNil _ _ _ _, ?_⟩⟩
      · simp only [Instr.range, Sem.run_bind, run_underlying hu, Result.andThen_ok, newObj, Sem.run, Sem.run_pure]
      · have := VRel.ptr (off := 0) (Phi.put_same φ b (w.heap.size, 0, 0))
        simpa using this
    · trivial
  · obtain ⟨R, s, l, rfl, hφ⟩ := hx.map_inv
    split
    · rename_i k e hu
      split
      · rename_i es clock hA
        refine .push fun w H => ?_
        obtain ⟨en, e1, e2, rfl, rfl⟩ := H.map hφ hA
        refine ⟨.mapIter (some R) clock #[] clock, .pointer (some ⟨w.heap.size, 0, none⟩), w.drawn, 0, 0, ?_, .miter (Phi.le_put _ _ _ H.fresh.1 _ _ hφ) rfl, ?_⟩
        · simp only [Instr.range, Sem.run_bind, run_underlying hu, Result.andThen_ok, run_getObj e1 (by simp), newObj, Sem.run, Sem.run_pure]
        · have := VRel.ptr (off := 0) (Phi.put_same φ A.next (w.heap.size, 0, 0))
          simpa using this
      · trivial
    · trivial
  · trivial

theorem hStore_ok {t : TypeId} {a x : AV} {a' x' : Value} (ha : VRel φ a a') (hx : VRel φ x x') : OpOk P φ A (do Instr.storeAt t a' x'; pure .skip) (.ofEf (hStore P A t a x)) := by
  refine .ofEf fun v A' h => ?_
  unfold hStore at h
  split at h
  · rename_i b off
    obtain ⟨R, s, l, rfl, hφ⟩ := ha.ptr_inv
    split at h
    · rename_i cs hcs
      cases hz : szEq P t cs.length with
      | false => rw [hz] at h; cases h
      | true =>
      rw [hz] at h
      simp only [cond_true] at h
      split at h
      · rename_i A1 hp
        simp only [Option.some.injEq, Prod.mk.injEq] at h
        obtain ⟨rfl, rfl⟩ := h
        obtain ⟨c1, c2, c3, c4⟩ := cellsOf_ok hcs hx
        intro w H
        obtain ⟨p1, p2, p3, p4⟩ := H.put (lo := A.next) hp hφ c1 c2
        refine ⟨φ, .skip, undef, w.setCells R (s + off) x'.cells.toList, ?_, .inr ⟨rfl, rfl⟩, p3, .tuple .nil, p4⟩
        have hi := (szEq_ok hz).1
        have := run_storeCells_cells (P := P) R (s + off) x'.cells.toList 0 w (by simpa using p1) (by simpa using p2) c2
        simp only [Instr.storeAt, Instr.sureAddr, storeVar, Sem.run_bind, Sem.run_pure, Result.andThen_ok, sizeOf_ok hi, c4]
        simp only [ne_eq, not_true_eq_false, if_false, this, Nat.add_zero, Result.andThen_ok]
      · cases h
    · cases h
  · cases h

theorem AllRel.findIdx {φ : Phi} : ∀ {x : List (AV × AV × Nat)} {y : List MapEntry}, AllRel (ERel φ) x y → ∀ (born i0 i : Nat), bornAt born x i0 = some i → ∃ k, i = i0 + k ∧ y.findIdx? (fun e => (e.born : Int) == (born : Int)) = some k ∧
      ∃ a b, x[k]? = some a ∧ y[k]? = some b ∧ ERel φ a b ∧ y.find? (fun e => e.born == born) = some b
  | _, _, .nil, born, i0, i, h => by simp [bornAt] at h
  | a :: x, b :: y, .cons r t, born, i0, i, h => by
    simp only [bornAt] at h
    cases hb : Nat.beq a.2.2 born with
    | true =>
      rw [hb] at h
      simp only [cond_true, Option.some.injEq] at h
      have := Nat.eq_of_beq_eq_true hb
      have hbb : b.born = born := by rw [← r.2.2]; exact this
      exact ⟨0, by omega, by simp [List.findIdx?_cons, hbb], a, b, rfl, rfl, r, by simp [hbb]⟩
    | false =>
      rw [hb] at h
      simp only [cond_false] at h
      have := Nat.ne_of_beq_eq_false hb
      have hbb : b.born ≠ born := by rw [← r.2.2]; exact this
      obtain ⟨k, h1, h2, a', b', h3, h4, h5, h6⟩ := AllRel.findIdx t born (i0 + 1) i h
      refine ⟨k + 1, by omega, ?_, a', b', by simpa using h3, by simpa using h4, h5, ?_⟩
      · have hne : ((b.born : Int) == (born : Int)) = false := by simp; omega
        simp [List.findIdx?_cons, hne, h2]
      · have hne : (b.born == born) = false := by simpa using hbb
        simp [hne, h6]

theorem modify_toList {α : Type} (a : Array α) (i : Nat) (f : α → α) : (a.modify i f).toList = a.toList.modify i f := by simp

/-- a map is changed -/
theorem HRel.setMap {w : World} (H : HRel φ A w.heap) {r R s l clock clock' : Nat} {es es' : List (AV × AV × Nat)} {en' : Array MapEntry} (hφ : φ r = some (R, s, l)) (hA : A.get r = some (.map es clock))
    (he : AllRel (ERel φ) es' en'.toList) : HRel φ (A.set r (some (.map es' clock'))) (w.heap.setIfInBounds R (.map en' clock')) ∧
      Goes A.next φ A w φ (A.set r (some (.map es' clock'))) { w with heap := w.heap.setIfInBounds R (.map en' clock') } := by
  obtain ⟨en, e1, e2, rfl, rfl⟩ := H.map hφ hA
  exact H.setObj hφ hA rfl rfl rfl (.map he)

theorem hMapUpdate_ok {t : TypeId} {m k x : AV} {m' k' x' : Value} (hm : VRel φ m m') (hk : VRel φ k k') (hx : VRel φ x x') :
    OpOk P φ A (do Instr.mapUpdate t m' k' x'; pure .skip) (.ofEf (hMapUpdate P A t m k x)) := by
  refine .ofEf fun v A' h => ?_
  unfold hMapUpdate at h
  split at h
  · rename_i r
    obtain ⟨R, s, l, rfl, hφ⟩ := hm.map_inv
    split at h
    · rename_i kt et hu
      cases hg : goodKey P kt k with
      | false => rw [hg] at h; cases h
      | true =>
      rw [hg] at h
      simp only [cond_true] at h
      split at h
      · rename_i es clock hA
        intro w H
        obtain ⟨en, e1, e2, hs0, hl0⟩ := H.map hφ hA
        have ho := run_getObj (P := P) e1 (by simp)
        have hset := fun o' => run_setObj (P := P) (o' := o') e1 (by simp)
        split at h
        · rename_i i v0 hfa
          cases hst : staysAt es i k with
          | false => rw [hst] at h; cases h
          | true =>
            rw [hst] at h
            simp only [cond_true, Option.some.injEq, Prod.mk.injEq] at h
            obtain ⟨rfl, rfl⟩ := h
            obtain ⟨r', f1, f2⟩ := findA_ok (keyP_under hg) hk hfa e2
            cases r' with
            | none => exact f1.elim
            | some p =>
              obtain ⟨i', v'⟩ := p
              obtain ⟨rfl, hv', ea, mb, g1, g2, g3, g4, g5⟩ := f1
              unfold staysAt at hst
              rw [g1] at hst
              simp only [stays, Bool.and_eq_true] at hst
              have hke := AV.beq_eq _ _ hst.2
              obtain ⟨q1, q2⟩ := simple_eq 10 k mb.key k' hst.1 (by rw [hke]; exact g3.1) hk
              obtain ⟨s1, s2⟩ := H.setMap (clock' := clock) (es' := modAt es i' fun e => (e.1, x, e.2.2)) (en' := en.modify i' fun e => { e with key := k', val := x' }) hφ hA (by
                rw [modify_toList]
                refine e2.modAt i' _ _ fun a b ha hb hab => ?_
                rw [g2] at hb; cases hb
                rw [g1] at ha; cases ha
                exact ⟨by rw [← q1]; exact g3.1, hx, g3.2.2⟩)
              refine ⟨φ, .skip, undef, _, ?_, .inr ⟨rfl, rfl⟩, s1, .tuple .nil, s2⟩
              have g2' : en[i']? = some mb := by simpa using g2
              simp only [Instr.mapUpdate, Sem.run_bind, run_underlying hu, Result.andThen_ok, ho, goodKey_ok hg hk, f2, g2', Option.map_some, Option.getD_some, Instr.keyThatStays, q2 10000 (by omega), if_true, Sem.run_pure, hset]
        · rename_i hfa
          simp only [Option.some.injEq, Prod.mk.injEq] at h
          obtain ⟨rfl, rfl⟩ := h
          obtain ⟨r', f1, f2⟩ := findA_ok (keyP_under hg) hk hfa e2
          cases r' with
          | some p => exact f1.elim
          | none =>
            obtain ⟨s1, s2⟩ := H.setMap (clock' := clock + 1) (es' := es ++ [(k, x, clock)]) (en' := en.push { key := k', val := x', born := clock }) hφ hA (by
              rw [Array.toList_push]
              exact e2.push ⟨hk, hx, rfl⟩)
            refine ⟨φ, .skip, undef, _, ?_, .inr ⟨rfl, rfl⟩, s1, .tuple .nil, s2⟩
            simp only [Instr.mapUpdate, Sem.run_bind, run_underlying hu, Result.andThen_ok, ho, goodKey_ok hg hk, f2, hset, Sem.run_pure]
        · cases h
      · cases h
    · cases h
  · cases h

theorem hMapEntry_ok {t : TypeId} {m k : AV} {m' k' : Value} (hm : VRel φ m m') (hk : VRel φ k k') :
    OpOk P φ A (do pure (.value (← Instr.mapEntry t m' k'))) (.ofEf (hMapEntry P A t m k)) := by
  refine .ofEf fun v A' h => ?_
  unfold hMapEntry at h
  split at h
  · rename_i r
    obtain ⟨R, s, l, rfl, hφ⟩ := hm.map_inv
    split at h
    · rename_i kt et hu
      cases hg : goodKey P kt k with
      | false => rw [hg] at h; cases h
      | true =>
      rw [hg] at h
      simp only [cond_true] at h
      split at h
      · rename_i es clock hA
        intro w H
        obtain ⟨en, e1, e2, hs0, hl0⟩ := H.map hφ hA
        have ho := run_getObj (P := P) e1 (by simp)
        have hset := fun o' => run_setObj (P := P) (o' := o') e1 (by simp)
        split at h
        · rename_i i v0 hfa
          split at h
          · rename_i ee hee
            cases hst : stays k ee.1 with
            | false => rw [hst] at h; cases h
            | true =>
              rw [hst] at h
              simp only [cond_true, Option.some.injEq, Prod.mk.injEq] at h
              obtain ⟨rfl, rfl⟩ := h
              obtain ⟨r', f1, f2⟩ := findA_ok (keyP_under hg) hk hfa e2
              cases r' with
              | none => exact f1.elim
              | some p =>
                obtain ⟨i', v'⟩ := p
                obtain ⟨rfl, hv', ea, mb, g1, g2, g3, g4, g5⟩ := f1
                rw [g1] at hee
                cases hee
                simp only [stays, Bool.and_eq_true] at hst
                have hke := AV.beq_eq _ _ hst.2
                obtain ⟨q1, q2⟩ := simple_eq 10 k mb.key k' hst.1 (by rw [hke]; exact g3.1) hk
                have g2' : en[i']? = some mb := by simpa using g2
                have hsame : en.modify i' (fun e => { e with key := k' }) = en := by
                  apply Array.ext'
                  rw [modify_toList]
                  apply List.ext_getElem?
                  intro j
                  rw [List.getElem?_modify]
                  by_cases hj : i' = j
                  · subst hj; simp only [if_true]; rw [g2, ← q1]; rfl
                  · simp only [hj, if_false]; cases en.toList[j]? <;> rfl
                refine ⟨φ, .value (.tuple #[v', goInt mb.born]), .tuple #[v', goInt mb.born], { w with heap := w.heap.setIfInBounds R (.map en clock) }, ?_, .inl rfl, ?_, ?_, ?_⟩
                · simp only [Instr.mapEntry, Sem.run_bind, run_underlying hu, Result.andThen_ok, ho, goodKey_ok hg hk, f2, g2', Option.map_some, Option.getD_some, Instr.keyThatStays, q2 10000 (by omega), if_true, Sem.run_pure, hset, hsame]
                · have : w.heap.setIfInBounds R (.map en clock) = w.heap := by
                    apply Array.ext_getElem?
                    intro j
                    by_cases hj : R = j
                    · subst hj
                      have hlt : R < w.heap.size := (H.dom r R s l hφ).2
                      rw [Array.getElem?_setIfInBounds_self_of_lt hlt, e1]
                    · rw [Array.getElem?_setIfInBounds_ne hj]
                  rw [this]; exact H
                · refine .tuple (.cons hv' (.cons ?_ .nil))
                  rw [g3.2.2]
                  exact .int _ _
                · have : w.heap.setIfInBounds R (.map en clock) = w.heap := by
                    apply Array.ext_getElem?
                    intro j
                    by_cases hj : R = j
                    · subst hj
                      have hlt : R < w.heap.size := (H.dom r R s l hφ).2
                      rw [Array.getElem?_setIfInBounds_self_of_lt hlt, e1]
                    · rw [Array.getElem?_setIfInBounds_ne hj]
                  rw [this]
                  exact Goes.refl _ _ _ _
          · cases h
        · rename_i hfa
          split at h
          · rename_i z hz
            simp only [Option.some.injEq, Prod.mk.injEq] at h
            obtain ⟨rfl, rfl⟩ := h
            obtain ⟨z', iz, z1, z2, z3, z4⟩ := zeroV_ok (φ := φ) hz
            obtain ⟨r', f1, f2⟩ := findA_ok (keyP_under hg) hk hfa e2
            cases r' with
            | some p => exact f1.elim
            | none =>
              obtain ⟨s1, s2⟩ := H.setMap (clock' := clock + 1) (es' := es ++ [(k, z, clock)]) (en' := en.push { key := k', val := z', born := clock }) hφ hA (by
                rw [Array.toList_push]
                exact e2.push ⟨hk, z3, rfl⟩)
              refine ⟨φ, .value (.tuple #[z', goInt clock]), .tuple #[z', goInt clock], _, ?_, .inl rfl, s1, .tuple (.cons z3 (.cons (.int _ _) .nil)), s2⟩
              simp only [Instr.mapEntry, Sem.run_bind, run_underlying hu, Result.andThen_ok, ho, goodKey_ok hg hk, f2, z4, hset, Sem.run_pure]
          · cases h
        · cases h
      · cases h
    · cases h
  · cases h

theorem hEntryStore_ok {t : TypeId} {m s0 x : AV} {m' s' x' : Value} (hm : VRel φ m m') (hs : VRel φ s0 s') (hx : VRel φ x x') :
    OpOk P φ A (do Instr.entryStore t m' s' x'; pure .skip) (.ofEf (hEntryStore A m s0 x)) := by
  refine .ofEf fun v A' h => ?_
  unfold hEntryStore at h
  split at h
  · rename_i r
    obtain ⟨R, s, l, rfl, hφ⟩ := hm.map_inv
    split at h
    · rename_i born hb
      obtain ⟨k, rfl⟩ := asNat_ok hb hs
      split at h
      · rename_i es clock hA
        split at h
        · rename_i i hi
          simp only [Option.some.injEq, Prod.mk.injEq] at h
          obtain ⟨rfl, rfl⟩ := h
          intro w H
          obtain ⟨en, e1, e2, hs0, hl0⟩ := H.map hφ hA
          obtain ⟨j, h1, h2, a, b, h3, h4, h5, h6⟩ := e2.findIdx born 0 i hi
          have hj : i = j := by omega
          subst hj
          have ho := run_getObj (P := P) e1 (by simp)
          have hset := fun o' => run_setObj (P := P) (o' := o') e1 (by simp)
          obtain ⟨s1, s2⟩ := H.setMap (clock' := clock) (es' := modAt es i fun e => (e.1, x, e.2.2)) (en' := en.modify i fun e => { e with val := x' }) hφ hA (by
            rw [modify_toList]
            exact e2.modAt i _ _ fun a b ha hb hab => ⟨hab.1, hx, hab.2.2⟩)
          refine ⟨φ, .skip, undef, _, ?_, .inr ⟨rfl, rfl⟩, s1, .tuple .nil, s2⟩
          have h2' : en.findIdx? (fun e => (e.born : Int) == (born : Int)) = some i := by
            have aux : ∀ (en : Array MapEntry), en.toList.findIdx? (fun e => (e.born : Int) == (born : Int)) = some i → en.findIdx? (fun e => (e.born : Int) == (born : Int)) = some i := fun ⟨l⟩ h => by simpa using h
            exact aux en h2
          simp only [Instr.entryStore, Sem.run_bind, ho, Result.andThen_ok, asInt, asIntOf, Sem.run_pure, h2', hset]
        · cases h
      · cases h
    · cases h
  · cases h

theorem hDelete_ok {ty t kt et : TypeId} {ts : Array TypeId} {m k : AV} {m' k' : Value} (ht : ts[0]? = some t) (hu : P.underlying t = some (.map kt et)) (hm : VRel φ m m') (hk : VRel φ k k') :
    OpOk P φ A (do pure (.value (← Builtin.delete_ ts ty #[m', k']))) (.ofEf (hDelete P A kt m k)) := by
  refine .ofEf fun v A' h => ?_
  unfold hDelete at h
  split at h
  · rename_i r
    obtain ⟨R, s, l, rfl, hφ⟩ := hm.map_inv
    cases hg : goodKey P kt k with
    | false => rw [hg] at h; cases h
    | true =>
    rw [hg] at h
    simp only [cond_true] at h
    split at h
    · rename_i es clock hA
      intro w H
      obtain ⟨en, e1, e2, hs0, hl0⟩ := H.map hφ hA
      have ho := run_getObj (P := P) e1 (by simp)
      have hset := fun o' => run_setObj (P := P) (o' := o') e1 (by simp)
      split at h
      · rename_i i v0 hfa
        simp only [Option.some.injEq, Prod.mk.injEq] at h
        obtain ⟨rfl, rfl⟩ := h
        obtain ⟨r', f1, f2⟩ := findA_ok (keyP_under hg) hk hfa e2
        cases r' with
        | none => exact f1.elim
        | some p =>
          obtain ⟨i', v'⟩ := p
          obtain ⟨rfl, hv', ea, mb, g1, g2, g3, g4, g5⟩ := f1
          obtain ⟨s1, s2⟩ := H.setMap (clock' := clock) (es' := es.eraseIdx i') (en' := en.eraseIdxIfInBounds i') hφ hA (by
            rw [Array.toList_eraseIdxIfInBounds]
            exact e2.eraseIdx i')
          refine ⟨φ, .value (.tuple #[]), .tuple #[], _, ?_, .inl rfl, s1, .tuple .nil, s2⟩
          simp [Builtin.delete_, ht, Sem.run_bind, run_underlying hu, ho, goodKey_ok hg hk, f2, hset]
      · rename_i hfa
        simp only [Option.some.injEq, Prod.mk.injEq] at h
        obtain ⟨rfl, rfl⟩ := h
        obtain ⟨r', f1, f2⟩ := findA_ok (keyP_under hg) hk hfa e2
        cases r' with
        | some p => exact f1.elim
        | none =>
          have hsame : w.heap.setIfInBounds R (.map en clock) = w.heap := by
            apply Array.ext_getElem?
            intro j
            by_cases hj : R = j
            · subst hj
              have hlt : R < w.heap.size := (H.dom r R s l hφ).2
              rw [Array.getElem?_setIfInBounds_self_of_lt hlt, e1]
            · rw [Array.getElem?_setIfInBounds_ne hj]
          refine ⟨φ, .value (.tuple #[]), .tuple #[], { w with heap := w.heap.setIfInBounds R (.map en clock) }, ?_, .inl rfl, by rw [hsame]; exact H, .tuple .nil, by rw [hsame]; exact Goes.refl _ _ _ _⟩
          simp [Builtin.delete_, ht, Sem.run_bind, run_underlying hu, ho, goodKey_ok hg hk, f2, hset]
      · cases h
    · cases h
  · cases h

theorem hEntry_ok {it : AV} {it' : Value} (hi : VRel φ it it') : OpOk P φ A (do pure (.value (← Instr.entry it'))) (.ofEf (hEntry A it)) := by
  refine .ofEf fun v A' h => ?_
  unfold hEntry at h
  split at h
  · rename_i r
    obtain ⟨R, s, l, rfl, hφ⟩ := hi.ptr_inv
    split at h
    · rename_i m since seen stepped hA
      split at h
      · rename_i stamp rest
        split at h
        · rename_i es clock hM
          cases hc : Nat.beq clock stepped with
          | false => rw [hc] at h; cases h
          | true =>
          rw [hc] at h
          simp only [cond_true] at h
          split at h
          · rename_i i hb
            split at h
            · rename_i e he
              simp only [Option.some.injEq, Prod.mk.injEq] at h
              obtain ⟨rfl, rfl⟩ := h
              intro w H
              obtain ⟨R', s', l', obj, k1, k2, k3⟩ := H.con r _ hA
              rw [hφ] at k1
              cases k1
              cases k3 with
              | miter hm hseen =>
                obtain ⟨en, e1, e2, _, _⟩ := H.map hm hM
                obtain ⟨j, h1, h2, a, b, h3, h4, h5, h6⟩ := e2.findIdx stamp 0 i hb
                have hj : i = j := by omega
                subst hj
                rw [h3] at he
                cases he
                refine ⟨φ, .value (.tuple #[b.key, b.val]), .tuple #[b.key, b.val], w, ?_, .inl rfl, H, .tuple (.cons h5.1 (.cons h5.2.1 .nil)), Goes.refl _ _ _ _⟩
                have hback : ∀ (a : Array Nat), a.toList = (stamp :: rest).reverse → a.back? = some stamp := by
                  intro a ha
                  rw [← Array.getLast?_toList, ha]
                  simp
                have h6' : en.find? (fun e => e.born == stamp) = some b := by rw [← Array.find?_toList]; exact h6
                have hcs := Nat.eq_of_beq_eq_true hc
                subst hcs
                simp [Instr.entry, Sem.run_bind, run_getObj k2, hback _ hseen, run_getObj e1, h6']
            · cases h
          · cases h
        · cases h
      · cases h
    · cases h
  · cases h

end
end Go.Ae

/- Iterators; copies. -/
namespace Go.Ae
open Go
section
variable {P : Program} {φ : Phi} {A : AW}

theorem arr_isEmpty {α : Type} (a : Array α) : a.toList.isEmpty = a.isEmpty := by cases a with | mk l => cases l <;> simp

theorem ORel.siter_inv {S : List Nat} {pos : Nat} {obj : Obj} {s l : Nat} (h : ORel φ (.siter S pos) obj s l) : ∃ str, S = bytesOfStr str ∧ obj = .stringIter str pos ∧ s = 0 ∧ l = 0 := by
  cases h; exact ⟨_, rfl, rfl, rfl, rfl⟩

theorem bytesOfStr_back (s : ByteArray) : (⟨((bytesOfStr s).map Nat.toUInt8).toArray⟩ : ByteArray) = s := by
  cases s with
  | mk d =>
    simp only [ByteArray.mk.injEq]
    apply Array.ext'
    simp only [bytesOfStr, List.map_map]
    have : (Nat.toUInt8 ∘ UInt8.toNat) = id := by funext u; simp [Nat.toUInt8]
    rw [this]
    simp

theorem hNextStr_ok {ty : TypeId} {it : AV} {it' : Value} (hi : VRel φ it it') : OpOk P φ A (do pure (.value (← Instr.next it' true ty))) (.ofEf (hNextStr A it)) := by
  refine .ofEf fun v A' h => ?_
  unfold hNextStr at h
  split at h
  · rename_i r
    obtain ⟨R, s, l, rfl, hφ⟩ := hi.ptr_inv
    split at h
    · rename_i S pos hA
      intro w H
      obtain ⟨R', s', l', obj, k1, k2, k3⟩ := H.con r _ hA
      rw [hφ] at k1
      cases k1
      obtain ⟨str, rfl, rfl, rfl, rfl⟩ := k3.siter_inv
      have ho := run_getObj (P := P) k2 (by simp)
      have hset := fun o' => run_setObj (P := P) (o' := o') k2 (by simp)
      cases hb : Nat.blt pos (bytesOfStr str).length with
      | true =>
        rw [hb] at h
        have hlt := blt_lt hb
        rw [bytesOfStr_length] at hlt
        simp only [cond_true, bytesOfStr_back] at h
        cases hd : Utf8.decode str pos with
        | mk c wd =>
          rw [hd] at h
          simp only [Option.some.injEq, Prod.mk.injEq] at h
          obtain ⟨rfl, rfl⟩ := h
          obtain ⟨s1, s2⟩ := H.setObj (lo := A.next) (o' := .siter (bytesOfStr str) (Nat.add pos wd)) (obj' := .stringIter str (pos + wd)) hφ hA rfl rfl rfl (.siter _ _)
          refine ⟨φ, .value (.tuple #[.bool true, goInt pos, .int .i32 c]), _, _, ?_, .inl rfl, s1, .tuple (.cons (.bool _) (.cons (.int _ _) (.cons (.int _ _) .nil))), s2⟩
          simp only [Instr.next, Sem.run_bind, ho, Result.andThen_ok, hlt, if_true, hd, hset, Sem.run_pure, Nat.zero_add]
      | false =>
        rw [hb] at h
        have hlt := blt_ge hb
        rw [bytesOfStr_length] at hlt
        simp only [cond_false, Option.some.injEq, Prod.mk.injEq] at h
        obtain ⟨rfl, rfl⟩ := h
        refine ⟨φ, .value (.tuple #[.bool false]), _, w, ?_, .inl rfl, H, .tuple (.cons (.bool _) .nil), Goes.refl _ _ _ _⟩
        have hlt' : ¬ pos < str.size := by omega
        simp only [Instr.next, Sem.run_bind, ho, Result.andThen_ok, hlt', if_false, Sem.run_pure]
    · cases h
  · cases h

theorem AllRel.filter {α β : Type} {R : α → β → Prop} {p : α → Bool} {q : β → Bool} (h : ∀ a b, R a b → p a = q b) : ∀ {x : List α} {y : List β}, AllRel R x y → AllRel R (x.filter p) (y.filter q)
  | _, _, .nil => .nil
  | a :: x, b :: y, .cons r t => by
    rw [List.filter_cons, List.filter_cons, h a b r]
    split
    · exact .cons r (AllRel.filter h t)
    · exact AllRel.filter h t
theorem AllRel.all {α β : Type} {R : α → β → Prop} {p : α → Bool} {q : β → Bool} (h : ∀ a b, R a b → p a = q b) : ∀ {x : List α} {y : List β}, AllRel R x y → x.all p = y.all q
  | _, _, .nil => rfl
  | a :: x, b :: y, .cons r t => by rw [List.all_cons, List.all_cons, h a b r, AllRel.all h t]
theorem AllRel.isEmpty {α β : Type} {R : α → β → Prop} : ∀ {x : List α} {y : List β}, AllRel R x y → x.isEmpty = y.isEmpty
  | _, _, .nil => rfl
  | _, _, .cons _ _ => rfl

theorem ORel.miter_inv {m : Option Nat} {since : Nat} {seen : List Nat} {st : Nat} {obj : Obj} {s l : Nat} (h : ORel φ (.miter m since seen st) obj s l) :
    s = 0 ∧ l = 0 ∧ ((m = none ∧ ∃ seen', obj = .mapIter none since seen' st) ∨ ∃ m0 R seen', m = some m0 ∧ φ m0 = some (R, 0, 0) ∧ obj = .mapIter (some R) since seen' st ∧ seen'.toList = seen.reverse) := by
  cases h
  · exact ⟨rfl, rfl, .inl ⟨rfl, _, rfl⟩⟩
  · exact ⟨rfl, rfl, .inr ⟨_, _, _, rfl, by assumption, rfl, by assumption⟩⟩

theorem run_choose_next {w : World} {n : Nat} (h : 0 < n) : ∃ i w', i < n ∧ (choose (.mapNext n)).run P w = .ok i w' ∧ w'.heap = w.heap ∧ w'.os = w.os ∧ w'.output = w.output ∧ w'.tape = w.tape := by
  by_cases hn : n ≤ 1
  · exact ⟨0, w, h, by simp [choose, Sem.run, Question.forced, hn], rfl, rfl, rfl, rfl⟩
  · exact ⟨w.tape w.drawn (.mapNext n) % n, { w with drawn := w.drawn + 1 }, Nat.mod_lt _ h, by simp [choose, Sem.run, Question.forced, hn, Question.cut], rfl, rfl, rfl, rfl⟩

theorem Goes.same {lo : Nat} {w w' : World} (h1 : w'.heap = w.heap) (h2 : w'.os = w.os) (h3 : w'.output = w.output) (h4 : w'.tape = w.tape) : Goes lo φ A w φ A w' :=
  ⟨Phi.le_refl φ, Nat.le_refl _, by rw [h1]; exact Nat.le_refl _, fun _ _ _ => by rw [h1], fun b o R s l h r e _ => ⟨b, o, s, l, h, r, e⟩, fun b o R s l h e _ => ⟨b, o, s, l, h, e⟩, fun b R s l h h' => (by rw [h] at h'; cases h'), h2, h3, h4⟩

def CRel (φ : Phi) : Option (AV × AV × Nat) → Option MapEntry → Prop
  | none, none => True
  | some a, some b => ERel φ a b
  | _, _ => False
theorem AllRel.mapSome : ∀ {x : List (AV × AV × Nat)} {y : List MapEntry}, AllRel (ERel φ) x y → AllRel (CRel φ) (x.map some) (y.map some)
  | _, _, .nil => .nil
  | _, _, .cons r t => .cons r (AllRel.mapSome t)
theorem candOf_ok {old new : List (AV × AV × Nat)} {old' new' : Array MapEntry} (h : AllRel (ERel φ) old old'.toList) (h' : AllRel (ERel φ) new new'.toList) :
    AllRel (CRel φ) (candOf old new) ((if old'.isEmpty = true then #[none] else #[]) ++ Array.map some (old' ++ new')).toList := by
  unfold candOf
  have he : old.isEmpty = old'.isEmpty := by rw [h.isEmpty]; exact arr_isEmpty old'
  rw [Array.toList_append, Array.toList_map, Array.toList_append, he]
  refine AllRel.append ?_ (AllRel.mapSome (h.append h'))
  cases old'.isEmpty with
  | true => exact .cons (show CRel φ none none from trivial) .nil
  | false => exact .nil

theorem cand_pos (old new : Array MapEntry) : 0 < ((if old.isEmpty = true then #[none] else #[]) ++ Array.map some (old ++ new)).size := by
  by_cases h : old.isEmpty = true
  · rw [if_pos h]; simp; omega
  · rw [if_neg h]
    have : old.size ≠ 0 := by intro h0; exact h (by simp [Array.isEmpty, h0])
    simp only [Array.size_append, Array.size_map, Array.size_empty]
    omega

theorem nextMap_ok {ty : TypeId} {it : AV} {it' : Value} (hi : VRel φ it it') : OpOk P φ A (do pure (.value (← Instr.next it' false ty))) (nextMap A it) := by
  unfold nextMap
  split
  · rename_i r
    obtain ⟨R, s, l, rfl, hφ⟩ := hi.ptr_inv
    split
    · rename_i since seen st hA
      intro w H
      obtain ⟨R', s', l', obj, k1, k2, k3⟩ := H.con r _ hA
      rw [hφ] at k1
      cases k1
      obtain ⟨rfl, rfl, hk⟩ := k3.miter_inv
      rcases hk with ⟨_, seen', rfl⟩ | ⟨m0, _, _, hm, _⟩
      · refine ⟨0, by omega, .tuple #[.bool false], w, ?_, H, .tuple (.cons (.bool _) .nil), Goes.refl _ _ _ _⟩
        simp only [Instr.next, Sem.run_bind, run_getObj k2 (by simp), Result.andThen_ok, Sem.run_pure]
      · cases hm
    · rename_i m since seen last hA
      split
      · rename_i es clock hM
        cases hguard : (!seen.isEmpty && !es.isEmpty && es.all (fun e => Nat.ble last e.2.2)) with
        | true => trivial
        | false =>
          simp only [cond_false]
          intro w H
          obtain ⟨R', s', l', obj, k1, k2, k3⟩ := H.con r _ hA
          rw [hφ] at k1
          cases k1
          obtain ⟨rfl, rfl, hk⟩ := k3.miter_inv
          rcases hk with ⟨hm, _⟩ | ⟨m0, Rm, seen', hm, hφm, rfl, hseen⟩
          · cases hm
          cases hm
          obtain ⟨en, e1, e2, _, _⟩ := H.map hφm hM
          have hE : seen.isEmpty = seen'.isEmpty := by
            have : seen'.toList.isEmpty = seen.isEmpty := by rw [hseen]; simp
            rw [← this]; exact arr_isEmpty seen'
          have hC : ∀ b, seen.contains b = seen'.contains b := by
            intro b
            rw [← Array.contains_toList, hseen]
            simp
          have hg : (!seen'.isEmpty && !en.isEmpty && en.all fun x => decide (x.born ≥ last)) = false := by
            have h1 := e2.isEmpty
            have h2 := e2.all (p := fun e => Nat.ble last e.2.2) (q := fun e => decide (e.born ≥ last)) (fun a b hr => by
              rw [hr.2.2]
              cases hb : Nat.ble last b.born with
              | true => have := Nat.le_of_ble_eq_true hb; simp [this]
              | false => have := Nat.not_le_of_not_ble_eq_true (by rw [hb]; simp : ¬ Nat.ble last b.born = true); simp; omega)
            have h3 : en.isEmpty = en.toList.isEmpty := (arr_isEmpty en).symm
            have h4 : en.all (fun x => decide (x.born ≥ last)) = en.toList.all (fun x => decide (x.born ≥ last)) := by cases en with | mk l => simp
            rw [← hE, h3, h4, ← h1, ← h2]
            simpa using hguard
          have hL : AllRel (ERel φ) (leftA es seen) (en.filter fun e => !seen'.contains e.born).toList := by
            rw [Array.toList_filter]
            exact e2.filter fun a b hr => by rw [hr.2.2, hC]
          have hO : AllRel (ERel φ) ((leftA es seen).filter fun e => Nat.blt e.2.2 since) ((en.filter fun e => !seen'.contains e.born).filter fun e => decide (e.born < since)).toList := by
            rw [Array.toList_filter]
            exact hL.filter fun a b hr => by
              rw [hr.2.2]
              cases hb : Nat.blt b.born since with
              | true => have := blt_lt hb; simp [this]
              | false => have := blt_ge hb; simp; omega
          have hN : AllRel (ERel φ) ((leftA es seen).filter fun e => !Nat.blt e.2.2 since) ((en.filter fun e => !seen'.contains e.born).filter fun e => decide (e.born ≥ since)).toList := by
            rw [Array.toList_filter]
            exact hL.filter fun a b hr => by
              rw [hr.2.2]
              cases hb : Nat.blt b.born since with
              | true => have := blt_lt hb; simp; omega
              | false => have := blt_ge hb; simp; omega
          have hR := candOf_ok hO hN
          generalize hc' : (if ((en.filter fun e => !seen'.contains e.born).filter fun e => decide (e.born < since)).isEmpty = true then #[none] else #[]) ++
            Array.map some (((en.filter fun e => !seen'.contains e.born).filter fun e => decide (e.born < since)) ++ ((en.filter fun e => !seen'.contains e.born).filter fun e => decide (e.born ≥ since))) = cand' at hR
          have hlen := hR.length
          simp only [Array.length_toList] at hlen
          have hpos : 0 < cand'.size := by
            rw [← hc']
            exact cand_pos _ _
          obtain ⟨i, w1, hi, hch, c1, c2, c3, c4⟩ := run_choose_next (P := P) (w := w) hpos
          have hcl : (candA es since seen).length = cand'.size := hlen
          obtain ⟨x, hx⟩ : ∃ x, (candA es since seen)[i]? = some x := ⟨_, List.getElem?_eq_getElem (by omega)⟩
          obtain ⟨y, hy, hxy⟩ := hR.get i x hx
          have hy' : cand'[i]? = some y := by simpa using hy
          refine ⟨i, by omega, ?_⟩
          dsimp only
          rw [hx]
          cases x with
          | none =>
            cases y with
            | some y => exact hxy.elim
            | none =>
              refine ⟨.tuple #[.bool false], w1, ?_, by rw [c1]; exact H, .tuple (.cons (.bool _) .nil), Goes.same c1 c2 c3 c4⟩
              simp only [Instr.next, Sem.run_bind, run_getObj k2 (by simp), run_getObj e1 (by simp), Result.andThen_ok, Nat.zero_add, Sem.run_pure]
              rw [hg]
              simp only [Bool.false_eq_true, if_false]
              rw [hc']
              simp only [Sem.run_bind, hch, Result.andThen_ok, hy', Sem.run_pure]
          | some x =>
            cases y with
            | none => exact hxy.elim
            | some y =>
              obtain ⟨s1, s2⟩ := HRel.setObj (lo := A.next) (w := w1) (by rw [c1]; exact H) (o' := .miter (some m) since (x.2.2 :: seen) clock) (obj' := .mapIter (some Rm) since (seen'.push y.born) clock) hφ hA rfl rfl rfl
                (.miter hφm (by rw [Array.toList_push, hseen, List.reverse_cons, hxy.2.2]))
              have hset := run_setObj (P := P) (w := w1) (R := R) (o' := .mapIter (some Rm) since (seen'.push y.born) clock) (by rw [c1]; exact k2) (by simp)
              refine ⟨.tuple #[.bool true, y.key, y.val], { w1 with heap := w1.heap.setIfInBounds R (.mapIter (some Rm) since (seen'.push y.born) clock) }, ?_, s1, .tuple (.cons (.bool _) (.cons hxy.1 (.cons hxy.2.1 .nil))), (Goes.same c1 c2 c3 c4).trans s2⟩
              simp only [Instr.next, Sem.run_bind, run_getObj k2 (by simp), run_getObj e1 (by simp), Result.andThen_ok, Nat.zero_add, Sem.run_pure]
              rw [hg]
              simp only [Bool.false_eq_true, if_false]
              rw [hc']
              simp only [Sem.run_bind, hch, Result.andThen_ok, hy', hset, Sem.run_pure]
      · trivial
    · trivial
  · trivial

end
end Go.Ae

/- Copies, clears, appends. -/
namespace Go.Ae
open Go
section
variable {P : Program} {φ : Phi} {A : AW}

theorem run_firstCells_list {w : World} {size n : Nat} {a : Addr} {len cap : Nat} {us : List Value} (hl : us.length = n * size) (h : ∀ j u, us[j]? = some u → w.cell? (a.add j) = some u) :
    (Builtin.firstCells size n (.slice (some a) len cap)).run P w = .ok us.toArray w := by
  simp only [Builtin.firstCells, ← hl]
  exact run_loadCells_list (P := P) w a us h

theorem byteCells_rel (s : ByteArray) (n : Nat) : VRels φ (byteCells ((bytesOfStr s).take n)) ((s.extract 0 n).data.map fun b => Value.int .u8 b.toNat).toList := by
  have : (s.extract 0 n).data.toList = s.data.toList.take n := by
    rw [ByteArray.data_extract, Array.toList_extract]; simp
  rw [Array.toList_map, this]
  unfold byteCells bytesOfStr
  rw [← List.map_take, List.map_map]
  generalize s.data.toList.take n = l
  induction l with
  | nil => exact .nil
  | cons a l ih => exact .cons (.int _ _) ih

/-- what the second operand of append and copy yields -/
theorem srcCells_ok {size n : Nat} {x : AV} {x' : Value} {cs : List AV} (h : srcCells A size n x = some cs) (hn : ∃ m, lenA x = some m ∧ n ≤ m) (hx : VRel φ x x') :
    ∀ w, HRel φ A w.heap → ∃ us, VRels φ cs us ∧ (∀ u ∈ us, Flat u) ∧ us.length = n * size ∧ (Builtin.firstCells size n x').run P w = .ok us.toArray w ∧ (Builtin.firstCells size n x').run P w.drew = .ok us.toArray w.drew := by
  intro w H
  unfold srcCells at h
  split at h
  · cases hx
    cases hb : Nat.beq n 0 with
    | false => rw [hb] at h; cases h
    | true =>
      rw [hb] at h
      simp only [cond_true, Option.some.injEq] at h
      subst h
      have := Nat.eq_of_beq_eq_true hb
      subst this
      exact ⟨[], .nil, by simp, by simp, rfl, rfl⟩
  · rename_i b off len cap z ex
    obtain ⟨R, s, l, a, cap', rfl, hφ, hc, he, hl, hb, ha⟩ := hx.slice_inv
    cases hz : Nat.beq z size with
    | false => rw [hz] at h; cases h
    | true =>
      rw [hz] at h
      have := Nat.eq_of_beq_eq_true hz
      subst this
      simp only [cond_true] at h
      obtain ⟨m, hm, hnm⟩ := hn
      simp only [lenA, Option.some.injEq] at hm
      subst hm
      obtain ⟨us, u1, u2, u3, u4, _⟩ := cellsAt_ok (P := P) H hφ h
      have hcell : ∀ (w' : World), w'.heap = w.heap → ∀ j u, us[j]? = some u → w'.cell? (a.add j) = some u := by
        intro w' hw' j u hj
        have hj0 : j < us.length := (List.getElem?_eq_some_iff.1 hj).1
        have hpos : 0 < n := by
          rcases Nat.eq_zero_or_pos n with h0 | h0
          · subst h0; simp at u2; rw [u2] at hj0; simp at hj0
          · exact h0
        have hcell : w'.cell? (a.add j) = w.cell? (a.add j) := by simp only [World.cell?, hw']
        rw [hcell, ha (by omega), Addr.add_mid]
        exact u4 j u hj
      exact ⟨us, u1, u3, by simpa using u2, run_firstCells_list (by simpa using u2) (hcell w rfl), run_firstCells_list (by simpa using u2) (hcell w.drew rfl)⟩
  · rename_i S
    obtain ⟨s, rfl, rfl⟩ := hx.str_inv
    cases hz : Nat.beq size 1 with
    | false => rw [hz] at h; cases h
    | true =>
      rw [hz] at h
      have := Nat.eq_of_beq_eq_true hz
      subst this
      simp only [cond_true] at h
      split at h
      · rename_i c hc
        simp only [Option.some.injEq] at h
        subst h
        obtain ⟨_, c2, c3⟩ := cut_some _ _ _ _ hc
        simp only [List.drop_zero] at c2
        subst c2
        have hrel := byteCells_rel (φ := φ) s n
        refine ⟨_, hrel, fun u hu => ?_, ?_, rfl, rfl⟩
        · simp only [Array.toList_map, List.mem_map] at hu
          obtain ⟨_, _, rfl⟩ := hu
          rfl
        · rw [← hrel.length]
          simp only [byteCells, List.length_map, c3, Nat.mul_one]
      · cases h
  · cases h

theorem lenA_ok {x : AV} {x' : Value} {n : Nat} (h : lenA x = some n) (hx : VRel φ x x') (w : World) : (Builtin.lenOf x').run P w = .ok n w := by
  cases hx <;> simp only [lenA, reduceCtorEq, Option.some.injEq] at h
  · subst h; rw [bytesOfStr_length]; rfl
  · subst h; rfl
  · subst h; rfl

/-- cells stored behind an address that a slice has -/
theorem put_run {w : World} (H : HRel φ A w.heap) {A' : AW} {b off : Nat} {vs : List AV} (hp : putCells A b off vs = some A') {R s l : Nat} (hφ : φ b = some (R, s, l)) {us : List Value} (hv : VRels φ vs us) (h1 : ∀ u ∈ us, Flat u) :
    (storeCells ⟨R, s + off, none⟩ us).run P w = .ok () (w.setCells R (s + off) us) ∧ HRel φ A' (w.setCells R (s + off) us).heap ∧ Goes A.next φ A w φ A' (w.setCells R (s + off) us) := by
  obtain ⟨p1, p2, p3, p4⟩ := H.put (lo := A.next) hp hφ hv h1
  have := run_storeCells_cells (P := P) R (s + off) us 0 w (by simpa using p1) (by simpa using p2) h1
  exact ⟨by simpa using this, p3, p4⟩

theorem hCopy_ok {ty t e : TypeId} {ts : Array TypeId} {s x : AV} {s' x' : Value} (ht : ts[0]? = some t) (hu : P.underlying t = some (.slice e)) (hsz : ¬ sz P e = 0) (hs : VRel φ s s') (hx : VRel φ x x') :
    OpOk P φ A (do pure (.value (← Builtin.copy_ ts ty #[s', x']))) (.ofEf (hCopy P A e s x)) := by
  refine .ofEf fun v A' h => ?_
  unfold hCopy at h
  split at h
  · cases h
  · rename_i sl hsl
    intro w H
    have hlen := fun w => lenA_ok (P := P) hsl hx w
    have hsize : ∀ w, (sizeOf e).run P w = .ok (sz P e) w := sizeOf_ok (sz_info hsz)
    split at h
    · cases hs
      simp only [Option.some.injEq, Prod.mk.injEq] at h
      obtain ⟨rfl, rfl⟩ := h
      refine ⟨φ, .value (goInt 0), goInt 0, w, ?_, .inl rfl, H, .int _ _, Goes.refl _ _ _ _⟩
      have hfc : ∃ c, (Builtin.firstCells (sz P e) 0 x').run P w = .ok c w := by
        cases hx <;> simp only [lenA, reduceCtorEq] at hsl
        · exact ⟨_, rfl⟩
        · exact ⟨_, rfl⟩
        · refine ⟨#[], ?_⟩; simp [Builtin.firstCells, loadCells, loadCellsFrom]
      obtain ⟨c, hfc⟩ := hfc
      have : Nat.min sl 0 = 0 := Nat.min_zero sl
      simp [Builtin.copy_, ht, run_underlying hu, hlen, hsize, hfc]
    · rename_i b off dl cap z ex
      obtain ⟨R, st, l, a, cap', rfl, hφ, hc, he, hl, hb, ha⟩ := hs.slice_inv
      cases hz : Nat.beq z (sz P e) with
      | false => rw [hz] at h; cases h
      | true =>
        rw [hz] at h
        have := Nat.eq_of_beq_eq_true hz
        subst this
        simp only [cond_true] at h
        split at h
        · rename_i hsrc
          simp only [Option.some.injEq, Prod.mk.injEq] at h
          obtain ⟨rfl, rfl⟩ := h
          obtain ⟨us, u1, u2, u3, u4, _⟩ := srcCells_ok (P := P) hsrc ⟨sl, hsl, Nat.min_le_left _ _⟩ hx w H
          cases u1
          refine ⟨φ, .value (goInt (Nat.min sl dl)), goInt (Nat.min sl dl), w, ?_, .inl rfl, H, .int _ _, Goes.refl _ _ _ _⟩
          simp [Builtin.copy_, ht, run_underlying hu, hlen, hsize, u4, storeCells]
        · rename_i new hne hsrc
          split at h
          · rename_i A1 hp
            simp only [Option.some.injEq, Prod.mk.injEq] at h
            obtain ⟨rfl, rfl⟩ := h
            obtain ⟨us, u1, u2, u3, u4, _⟩ := srcCells_ok (P := P) hsrc ⟨sl, hsl, Nat.min_le_left _ _⟩ hx w H
            have hpos : 0 < cap' := by
              have h1 : us.length ≠ 0 := by
                rw [← u1.length]
                intro h0
                exact hne (List.length_eq_zero_iff.1 h0)
              rw [u3] at h1
              have h2 : Nat.min sl dl ≠ 0 := fun h0 => h1 (by rw [h0]; simp)
              have : Nat.min sl dl ≤ dl := Nat.min_le_right _ _
              omega
            obtain ⟨q1, q2, q3⟩ := put_run (P := P) H hp hφ u1 u2
            rw [← ha hpos] at q1
            refine ⟨φ, .value (goInt (Nat.min sl dl)), goInt (Nat.min sl dl), _, ?_, .inl rfl, q2, .int _ _, q3⟩
            simp [Builtin.copy_, ht, run_underlying hu, hlen, hsize, u4, q1]
          · cases h
        · cases h
    · cases h

theorem hClear_ok {ty t : TypeId} {ts : Array TypeId} {x : AV} {x' : Value} (ht : ts[0]? = some t) (hu : P.underlying t ≠ none) (hx : VRel φ x x') :
    OpOk P φ A (do pure (.value (← Builtin.clear_ ts ty #[x']))) (.ofEf (hClear P A t x)) := by
  obtain ⟨dt, hu⟩ := Option.ne_none_iff_exists'.1 hu
  refine .ofEf fun v A' h => ?_
  unfold hClear at h
  intro w H
  split at h
  · rename_i r
    obtain ⟨R, s, l, rfl, hφ⟩ := hx.map_inv
    split at h
    · rename_i es clock hA
      simp only [Option.some.injEq, Prod.mk.injEq] at h
      obtain ⟨rfl, rfl⟩ := h
      obtain ⟨en, e1, e2, hs0, hl0⟩ := H.map hφ hA
      have ho := run_getObj (P := P) e1 (by simp)
      have hset := fun o' => run_setObj (P := P) (o' := o') e1 (by simp)
      obtain ⟨s1, s2⟩ := H.setMap (clock' := clock) (es' := []) (en' := #[]) hφ hA .nil
      refine ⟨φ, .value (.tuple #[]), .tuple #[], _, ?_, .inl rfl, s1, .tuple .nil, s2⟩
      cases dt <;> simp [Builtin.clear_, ht, run_underlying hu, ho, hset]
    · cases h
  · cases hx
    simp only [Option.some.injEq, Prod.mk.injEq] at h
    obtain ⟨rfl, rfl⟩ := h
    refine ⟨φ, .value (.tuple #[]), .tuple #[], w, ?_, .inl rfl, H, .tuple .nil, Goes.refl _ _ _ _⟩
    cases dt <;> simp [Builtin.clear_, ht, run_underlying hu]
  · rename_i b off n cap z ex
    obtain ⟨R, s, l, a, cap', rfl, hφ, hc, he, hl, hb, ha⟩ := hx.slice_inv
    cases hn : Nat.beq n 0 with
    | true =>
      rw [hn] at h
      have := Nat.eq_of_beq_eq_true hn
      subst this
      simp only [cond_true, Option.some.injEq, Prod.mk.injEq] at h
      obtain ⟨rfl, rfl⟩ := h
      refine ⟨φ, .value (.tuple #[]), .tuple #[], w, ?_, .inl rfl, H, .tuple .nil, Goes.refl _ _ _ _⟩
      cases dt <;> simp [Builtin.clear_, ht, run_underlying hu]
    | false =>
      rw [hn] at h
      have hn0 := Nat.ne_of_beq_eq_false hn
      simp only [cond_false] at h
      split at h
      · rename_i e hu'
        rw [hu] at hu'
        cases hu'
        cases hz : Nat.beq z (sz P e) with
        | false => rw [hz] at h; cases h
        | true =>
          rw [hz] at h
          have := Nat.eq_of_beq_eq_true hz
          subst this
          simp only [cond_true] at h
          split at h
          · rename_i zv hzv
            split at h
            · rename_i A1 hp
              simp only [Option.some.injEq, Prod.mk.injEq] at h
              obtain ⟨rfl, rfl⟩ := h
              obtain ⟨v, i, h1, h2, h3, h4, h5, h6, h7⟩ := zeroC_ok (φ := φ) hzv
              have hr : VRels φ (reps n zv) ((Builtin.zeroCells v.cells n).toList) ∧ ∀ u ∈ (Builtin.zeroCells v.cells n).toList, Flat u := by
                by_cases h0 : 0 < sz P e
                · have := reps_ok h3 h4 h6 h0 n
                  rw [← h6] at this
                  exact this
                · have hz0 : zv = [] := List.length_eq_zero_iff.1 (by omega)
                  have hv0 : v.cells.size = 0 := by omega
                  have e1 : reps n zv = [] := List.length_eq_zero_iff.1 (by rw [reps_length, hz0]; simp)
                  have e2 : (Builtin.zeroCells v.cells n).toList = [] := by
                    apply List.length_eq_zero_iff.1
                    simp [Builtin.zeroCells, hv0]
                  rw [e1, e2]
                  exact ⟨.nil, by simp⟩
              obtain ⟨q1, q2, q3⟩ := put_run (P := P) H hp hφ hr.1 hr.2
              rw [← ha (by omega)] at q1
              refine ⟨φ, .value (.tuple #[]), .tuple #[], _, ?_, .inl rfl, q2, .tuple .nil, q3⟩
              cases n with
              | zero => exact absurd rfl hn0
              | succ n =>
                simp [Builtin.clear_, ht, run_underlying hu, h7, q1]
            · cases h
          · cases h
      · cases h
  · cases h

end
end Go.Ae

/- Appends. -/
namespace Go.Ae
open Go
section
variable {P : Program} {φ : Phi} {A : AW}

theorem growBy_le (n : Nat) : ∀ (r c : Nat), Builtin.growBy n r c ≤ max c (n + (n + 768) / 4)
  | 0, c => by simp [Builtin.growBy]; omega
  | r + 1, c => by
    simp only [Builtin.growBy]
    split
    · omega
    · have := growBy_le n r (c + (c + 768) / 4)
      omega
theorem nextslicecap_le {n old : Nat} (h : old < n) : Builtin.nextslicecap n old ≤ 2 * n + 2048 := by
  unfold Builtin.nextslicecap
  split
  · omega
  · split
    · omega
    · have := growBy_le n 4 old
      omega

theorem growOk_ok {need bytes : Nat} (h : growOk need bytes = true) : (2 * need + 2048) * bytes ≤ 281474976710656 ∧ need ≤ 281474976710656 := by
  unfold growOk at h
  have h := Nat.le_of_ble_eq_true h
  simp only [Nat.mul_eq, Nat.add_eq, Nat.succ_eq_add_one, Nat.mul_add, Nat.mul_one] at h
  have : (2 * need + 2048) * bytes ≤ 281474976710656 := by omega
  exact ⟨this, by omega⟩

theorem append_ts {ts : Array TypeId} {t tx ty : TypeId} (ht : ts[0]? = some t) (hx : ts[1]? = some tx) (args : Array Value) : Builtin.append_ ts ty args = Builtin.append_ #[t, tx] ty args := by
  unfold Builtin.append_
  simp only [ht, hx]
  rfl

theorem appT_ok {ts : Array TypeId} (h : appT P ts = true) : ∃ tx, ts[1]? = some tx ∧ ((∃ e', P.underlying tx = some (.slice e')) ∨ P.underlying tx = some .string) := by
  unfold appT at h
  split at h
  · cases h
  · rename_i t ht
    refine ⟨t, ht, ?_⟩
    split at h
    · rename_i e hu; exact .inl ⟨e, hu⟩
    · rename_i hu; exact .inr hu
    · cases h

theorem src_ok {w : World} (H : HRel φ A w.heap) {tx : TypeId} (hk : (∃ e', P.underlying tx = some (.slice e')) ∨ P.underlying tx = some .string) {size n : Nat} {x : AV} {x' : Value} {cs : List AV}
    (h : srcCells A size n x = some cs) (hn : lenA x = some n) (hx : VRel φ x x') : ∃ us, VRels φ cs us ∧ Src P size tx x' n us w := by
  obtain ⟨us, u1, u2, u3, u4, u5⟩ := srcCells_ok (P := P) h ⟨n, hn, Nat.le_refl _⟩ hx w H
  exact ⟨us, u1, hk, fun w' => lenA_ok hn hx w', u4, u5, u3, u2⟩

theorem rowTy_or (e ty off : Nat) : rowTy e ty off = noTy ∨ rowTy e ty off = e := by
  unfold rowTy
  cases (Nat.beq e ty && Nat.beq off 0) <;> simp

theorem zeroCells_size (z : Array Value) (n : Nat) : (Builtin.zeroCells z n).size = n * z.size := by simp [Builtin.zeroCells]

/-- what append makes anew -/
theorem ORel.grown {e ty : TypeId} {old new : List AV} {olds news : List Value} {z : Array Value} {k : Nat} {sib : Option Nat} (ht : ty = noTy ∨ ty = e) (ho : VRels φ old olds) (hn : VRels φ new news)
    (fo : ∀ u ∈ olds, Flat u) (fn : ∀ u ∈ news, Flat u) :
    ORel φ (.cells ty (old ++ new) false sib) (.cells ((olds ++ news).toArray ++ Builtin.zeroCells z k) e) 0 ((olds ++ news).toArray ++ Builtin.zeroCells z k).size := by
  have hl := (ho.append hn).length
  have htake : ((((olds ++ news).toArray ++ Builtin.zeroCells z k).toList.drop 0).take (old ++ new).length) = olds ++ news := by
    rw [hl, Array.toList_append, List.drop_zero]
    simp only [List.take_left]
  refine .cells (ht.imp id fun h => ⟨h, rfl⟩) (by omega) ?_ ?_ ?_ (fun _ => .inl (Nat.le_refl _))
  · rw [hl]; simp
  · rw [htake]; exact ho.append hn
  · rw [htake]; intro u hu; rcases List.mem_append.1 hu with h | h
    · exact fo u h
    · exact fn u h

/-- blocks are dropped, and a block's sibling is another: the rest stands -/
theorem HRel.drop {h : Array Obj} (H : HRel φ A h) {A1 : AW} {b : Nat} {ty : TypeId} {cs : List AV} {sib sib' : Option Nat} (hb : A.get b = some (.cells ty cs false sib))
    (hn : A1.next = A.next) (hg : ∀ x, A1.get x = A.get x ∨ A1.get x = none ∨ (x = b ∧ A1.get x = some (.cells ty cs false sib'))) (hs : ∀ c, c ≠ b → sib = some c → A1.get c = none) : HRel φ A1 h := by
  have obj : ∀ x o, A1.get x = some o → ∃ o0, A.get x = some o0 ∧ (o = o0 ∨ (x = b ∧ o = .cells ty cs false sib')) := by
    intro x o hx
    rcases hg x with h | h | ⟨rfl, h⟩
    · exact ⟨o, by rw [← h]; exact hx, .inl rfl⟩
    · rw [h] at hx; cases hx
    · rw [h] at hx; cases hx; exact ⟨_, hb, .inr ⟨rfl, rfl⟩⟩
  refine ⟨fun x o hx => ?_, fun x R s l hx => ?_, fun x o hx => ?_, fun x x' o o' R s l s' l' hne hx hx' hf hf' => ?_⟩
  · obtain ⟨o0, h0, _⟩ := obj x o hx
    rw [hn]; exact H.low x o0 h0
  · rw [hn]; exact H.dom x R s l hx
  · obtain ⟨o0, h0, he⟩ := obj x o hx
    obtain ⟨R, s, l, ob, e1, e2, e3⟩ := H.con x o0 h0
    rcases he with rfl | ⟨rfl, rfl⟩
    · exact ⟨R, s, l, ob, e1, e2, e3⟩
    · rw [hb] at h0
      cases h0
      cases e3 with
      | cells ht hs hl hv hp hf => exact ⟨_, _, _, _, e1, e2, .cells ht hs hl hv hp hf⟩
  · obtain ⟨o0, h0, he⟩ := obj x o hx
    obtain ⟨o0', h0', he'⟩ := obj x' o' hx'
    have hap := H.sep x x' o0 o0' R s l s' l' hne h0 h0' hf hf'
    -- b shares its block with its sibling alone, and that is dropped
    have nob : x ≠ b := by
      intro hxb
      subst hxb
      rw [hb] at h0
      cases h0
      rcases hap with h | h
      · cases h.1
      · have := hs x' (Ne.symm hne) h.1; rw [this] at hx'; cases hx'
    have nob' : x' ≠ b := by
      intro hxb
      subst hxb
      rw [hb] at h0'
      cases h0'
      rcases hap with h | h
      · cases h.2
      · have := hs x hne h.2; rw [this] at hx; cases hx
    rcases he with rfl | ⟨h, _⟩
    · rcases he' with rfl | ⟨h, _⟩
      · exact hap
      · exact absurd h nob'
    · exact absurd h nob

theorem Goes.drop {lo : Nat} {w : World} {A1 : AW} {b : Nat} {ty : TypeId} {cs : List AV} {sib sib' : Option Nat} (hb : A.get b = some (.cells ty cs false sib))
    (hn : A1.next = A.next) (hg : ∀ x, A1.get x = A.get x ∨ A1.get x = none ∨ (x = b ∧ A1.get x = some (.cells ty cs false sib'))) : Goes lo φ A w φ A1 w where
  le := Phi.le_refl _
  next := by rw [hn]; exact Nat.le_refl _
  size := Nat.le_refl _
  keep _ _ _ := rfl
  img x o R s l hx hr hf _ := by
    rcases hg x with h | h | ⟨rfl, h⟩
    · exact ⟨x, o, s, l, by rw [← h]; exact hx, hr, hf⟩
    · rw [h] at hx; cases hx
    · exact ⟨_, _, s, l, hb, rfl, hf⟩
  img2 x o R s l hx hf _ := by
    rcases hg x with h | h | ⟨rfl, h⟩
    · exact ⟨x, o, s, l, by rw [← h]; exact hx, hf⟩
    · rw [h] at hx; cases hx
    · exact ⟨_, _, s, l, hb, hf⟩
  fresh x R s l h1 h2 := by rw [h2] at h1; cases h1
  os := rfl
  output := rfl
  tape := rfl

theorem rowTy_place {e ty off s ety : Nat} (h : ty = noTy ∨ ty = ety ∧ s = 0) : rowTy e ty off = noTy ∨ rowTy e ty off = ety ∧ s + off = 0 := by
  unfold rowTy
  cases hb : (Nat.beq e ty && Nat.beq off 0) with
  | false => exact .inl rfl
  | true =>
    simp only [Bool.and_eq_true] at hb
    have h1 := Nat.eq_of_beq_eq_true hb.1
    have h2 := Nat.eq_of_beq_eq_true hb.2
    subst h1 h2
    rcases h with h | ⟨rfl, rfl⟩
    · exact .inl h
    · exact .inr ⟨rfl, rfl⟩

/-- append in place -/
theorem HRel.inPlace {w : World} (H : HRel φ A w.heap) {b ty e off k R s l : Nat} {cs old new : List AV} {sib sib1 : Option Nat} {ob : Option AObj} {news : List Value} (hA : A.get b = some (.cells ty cs false sib)) (hφ : φ b = some (R, s, l))
    (hob : (ob = none ∧ sib1 = none) ∨ (ob = some (.cells ty cs false (some A.next)) ∧ sib1 = some b ∧ off + k = cs.length)) (hold : cut cs off k = some old) (hn : VRels φ new news) (fn : ∀ u ∈ news, Flat u) (hroom : off + k + news.length ≤ l) :
    (∀ j, j < news.length → (w.cell? ⟨R, s + off + k + j, none⟩).isSome = true) ∧ (∀ j, j < news.length → w.frozen? ⟨R, s + off + k + j, none⟩ = false) ∧
    HRel (φ.put A.next (R, s + off, l - off)) (((A.kill sib).set b ob).push (.cells (rowTy e ty off) (old ++ new) false sib1)) (w.setCells R (s + off + k) news).heap ∧
    Goes A.next φ A w (φ.put A.next (R, s + off, l - off)) (((A.kill sib).set b ob).push (.cells (rowTy e ty off) (old ++ new) false sib1)) (w.setCells R (s + off + k) news) := by
  obtain ⟨R', s', l', c, ety, fl, fh, b1, b2, b3, b4, b5, b6, b7, b8⟩ := H.block hA
  rw [hφ] at b1
  cases b1
  have b7 := b7 rfl
  obtain ⟨k1, k2, k3⟩ := cut_some _ _ _ _ hold
  obtain ⟨c', c1, c2, c3⟩ := setCells_heap R ety (fl, fh) news (s + off + k) w c b2
  obtain ⟨z1, z2, z3, z4⟩ := setCells_same R news (s + off + k) w
  obtain ⟨f1, f2⟩ := H.fresh
  have hle := Phi.le_put φ A.next (R, s + off, l - off) f1
  have hnb : b < A.next := H.low b _ hA
  have hnx : ((A.kill sib).set b ob).next = A.next := by rw [AW.next_set, kill_next]
  have get' : ∀ x, (((A.kill sib).set b ob).push (.cells (rowTy e ty off) (old ++ new) false sib1)).get x =
      if x = A.next then some (.cells (rowTy e ty off) (old ++ new) false sib1) else if x = b then ob else if sib = some x then none else A.get x := by
    intro x; rw [AW.get_push, hnx, AW.get_set, kill_get]
  have only : ∀ x o s1 l1, x ≠ b → A.get x = some o → φ x = some (R, s1, l1) → sib = some x := by
    intro x o s1 l1 hx ho hf
    rcases H.sep b x _ o R s l s1 l1 (Ne.symm hx) hA ho hφ hf with h | h
    · cases h.1
    · exact h.1
  -- what is live behind it, beside the new block
  have live : ∀ x o, x ≠ A.next → (((A.kill sib).set b ob).push (.cells (rowTy e ty off) (old ++ new) false sib1)).get x = some o →
      (x = b ∧ ob = some o ∧ o = .cells ty cs false (some A.next) ∧ sib1 = some b ∧ off + k = cs.length) ∨ (x ≠ b ∧ sib ≠ some x ∧ A.get x = some o) := by
    intro x o hx ho
    rw [get', if_neg hx] at ho
    split at ho
    · rename_i he
      rcases hob with ⟨h, _⟩ | ⟨h, h', h''⟩
      · rw [h] at ho; cases ho
      · rw [h] at ho; cases ho; exact .inl ⟨he, h, rfl, h', h''⟩
    · rename_i he
      split at ho
      · cases ho
      · rename_i hs
        exact .inr ⟨he, hs, ho⟩
  have hoff : off ≤ l := by omega
  have hlen := hn.length
  refine ⟨fun j hj => ?_, fun j hj => ?_, ⟨fun x o hx => ?_, fun x R1 s1 l1 hx => ?_, fun x o hx => ?_, fun x x' o o' R1 s1 l1 s2 l2 hne hx hx' hf hf' => ?_⟩, ⟨hle, ?_, by rw [z1]; exact Nat.le_refl _, fun R1 hR1 hnn => ?_, fun x o R1 s1 l1 hx hr hf hR1 => ?_, fun x o R1 s1 l1 hx hf hR1 => ?_, fun x R1 s1 l1 h1 h2 => ?_, z2, z3, z4⟩⟩
  · rw [cell_of b2]
    simp [show s + off + k + j < c.size by omega]
  · rw [frozen_of b2]
    simp
    omega
  · rw [AW.next_push, hnx]
    by_cases he : x = A.next
    · omega
    · rcases live x o he hx with ⟨rfl, _⟩ | ⟨_, _, h⟩
      · omega
      · have := H.low x o h; omega
  · rw [AW.next_push, hnx, z1]
    by_cases he : x = A.next
    · subst he
      rw [Phi.put_same] at hx
      cases hx
      exact ⟨by omega, (H.dom b R s l hφ).2⟩
    · rw [Phi.put_other _ _ _ he] at hx
      have := H.dom x R1 s1 l1 hx
      exact ⟨by omega, this.2⟩
  · by_cases he : x = A.next
    · subst he
      rw [get', if_pos rfl] at hx
      cases hx
      have hll : (old ++ new).length = k + news.length := by rw [List.length_append, k3, hlen]
      have hget : ∀ i v, (((c'.toList.drop (s + off)).take (old ++ new).length))[i]? = some v → (i < k ∧ ((c.toList.drop s).take cs.length)[off + i]? = some v) ∨ (k ≤ i ∧ news[i - k]? = some v) := by
        intro i v h
        rw [getElem?_dropTake] at h
        split at h
        · rename_i hi
          rw [Array.getElem?_toList, c3] at h
          by_cases hik : i < k
          · rw [if_neg (by omega)] at h
            refine .inl ⟨hik, ?_⟩
            have : off + k ≤ cs.length := by rcases k1 with h | h <;> omega
            rw [getElem?_dropTake, if_pos (by omega), Array.getElem?_toList, ← Nat.add_assoc]
            exact h
          · rw [if_pos (by omega), show s + off + i - (s + off + k) = i - k by omega] at h
            exact .inr ⟨by omega, h⟩
        · cases h
      refine ⟨R, s + off, l - off, _, Phi.put_same _ _ _, c1, .cells (rowTy_place b8) (by omega) (by omega) ?_ ?_ (fun _ => by omega)⟩
      · refine VRels.of_get ?_ fun i x y hx hy => ?_
        · have hcl : c'.toList.length = c'.size := by simp
          simp only [List.length_take, List.length_drop]; omega
        · rcases hget i y hy with ⟨h1, h2⟩ | ⟨h1, h2⟩
          · rw [List.getElem?_append_left (by omega), k2, getElem?_dropTake, if_pos h1] at hx
            obtain ⟨y', e1, e2⟩ := b5.get _ _ hx
            rw [h2] at e1; cases e1; exact e2.mono hle
          · rw [List.getElem?_append_right (by omega), k3] at hx
            obtain ⟨y', e1, e2⟩ := hn.get _ _ hx
            rw [h2] at e1; cases e1; exact e2.mono hle
      · intro u hu
        obtain ⟨i, hi⟩ := List.getElem?_of_mem hu
        rcases hget i u hi with ⟨_, h2⟩ | ⟨_, h2⟩
        · exact b6 u (List.mem_of_getElem? h2)
        · exact fn u (List.mem_of_getElem? h2)
    · rcases live x o he hx with ⟨rfl, _, rfl, _, hcs⟩ | ⟨hxb, hsx, h⟩
      · have hsame : (c'.toList.drop s).take cs.length = (c.toList.drop s).take cs.length := by
          apply List.ext_getElem?
          intro i
          rw [getElem?_dropTake, getElem?_dropTake]
          split
          · rw [Array.getElem?_toList, Array.getElem?_toList, c3, if_neg (by omega)]
          · rfl
        exact ⟨R, s, l, _, hle _ _ hφ, c1, .cells b8 (by omega) b4 (by rw [hsame]; exact b5.mono hle) (by rw [hsame]; exact b6) (fun _ => b7)⟩
      · obtain ⟨R1, s1, l1, obj, e1, e2, e3⟩ := H.con x o h
        have hR : R1 ≠ R := fun h' => by subst h'; exact hsx (only x o s1 l1 hxb h e1)
        exact ⟨R1, s1, l1, obj, hle _ _ e1, by rw [setCells_other R R1 hR]; exact e2, e3.mono hle⟩
  · by_cases he : x = A.next
    · subst he
      rw [Phi.put_same] at hf
      cases hf
      rw [Phi.put_other _ _ _ (Ne.symm hne)] at hf'
      rw [get', if_pos rfl] at hx
      cases hx
      rcases live x' o' (Ne.symm hne) hx' with ⟨rfl, _, rfl, hs1, _⟩ | ⟨hxb, hsx, h⟩
      · exact .inr ⟨hs1, rfl⟩
      · exact absurd (only x' o' s2 l2 hxb h hf') hsx
    · rw [Phi.put_other _ _ _ he] at hf
      by_cases he' : x' = A.next
      · subst he'
        rw [Phi.put_same] at hf'
        cases hf'
        rw [get', if_pos rfl] at hx'
        cases hx'
        rcases live x o he hx with ⟨rfl, _, rfl, hs1, _⟩ | ⟨hxb, hsx, h⟩
        · exact .inr ⟨rfl, hs1⟩
        · exact absurd (only x o s1 l1 hxb h hf) hsx
      · rw [Phi.put_other _ _ _ he'] at hf'
        rcases live x o he hx with ⟨rfl, _, rfl, hs1, _⟩ | ⟨hxb, hsx, h⟩
        · rw [hφ] at hf
          cases hf
          rcases live x' o' he' hx' with ⟨rfl, _⟩ | ⟨hxb', hsx', h'⟩
          · exact absurd rfl hne
          · exact absurd (only x' o' s2 l2 hxb' h' hf') hsx'
        · rcases live x' o' he' hx' with ⟨rfl, _⟩ | ⟨hxb', hsx', h'⟩
          · rw [hφ] at hf'
            cases hf'
            exact absurd (only x o s1 l1 hxb h hf) hsx
          · exact H.sep x x' o o' R1 s1 l1 s2 l2 hne h h' hf hf'
  · rw [AW.next_push, hnx]; omega
  · have hR : R1 ≠ R := fun h' => by subst h'; exact hnn b _ s l hA rfl hφ
    exact setCells_other R R1 hR _ _ _
  · by_cases he : x = A.next
    · subst he
      rw [Phi.put_same] at hf
      cases hf
      exact ⟨b, _, s, l, hA, rfl, hφ⟩
    · rw [Phi.put_other _ _ _ he] at hf
      rcases live x o he hx with ⟨rfl, _, rfl, hs1, _⟩ | ⟨hxb, hsx, h⟩
      · exact ⟨x, _, s1, l1, hA, rfl, hf⟩
      · exact ⟨x, o, s1, l1, h, hr, hf⟩
  · by_cases he : x = A.next
    · subst he
      rw [Phi.put_same] at hf
      cases hf
      exact ⟨b, _, s, l, hA, hφ⟩
    · rw [Phi.put_other _ _ _ he] at hf
      rcases live x o he hx with ⟨rfl, _, rfl, hs1, _⟩ | ⟨hxb, hsx, h⟩
      · exact ⟨x, _, s1, l1, hA, hf⟩
      · exact ⟨x, o, s1, l1, h, hf⟩
  · by_cases he : x = A.next
    · omega
    · rw [Phi.put_other _ _ _ he, h2] at h1; cases h1

theorem hAppend_ok {ty t e : TypeId} {ts : Array TypeId} {x y : AV} {x' y' : Value} {n : Nat} {new : List AV} (ht : ts[0]? = some t) (htx : appT P ts = true) (hu : P.underlying t = some (.slice e)) (hsz : ¬ sz P e = 0)
    (hlen : lenA y = some n) (hsrc : srcCells A (sz P e) n y = some new) (hx : VRel φ x x') (hy : VRel φ y y') :
    OpOk P φ A (do pure (.value (← Builtin.append_ ts ty #[x', y']))) (.ofEf (appendA P e A x n new)) := by
  obtain ⟨tx, hts, hk⟩ := appT_ok htx
  obtain ⟨i, hi⟩ := Option.ne_none_iff_exists'.1 (sz_info hsz)
  have hisz : i.size = sz P e := by simp [sz, Program.cellsOf, hi]
  have hby : P.bytesOf e = i.bytes := by simp [Program.bytesOf, hi]
  refine .ofEf fun v A' h => ?_
  intro w H
  obtain ⟨news, n1, n2⟩ := src_ok (P := P) H hk hsrc hlen hy
  have hnl : new.length = n * sz P e := by rw [n1.length]; exact n2.newsLen
  rw [append_ts ht hts]
  unfold appendA at h
  split at h
  · cases hx
    cases hn0 : Nat.beq n 0 with
    | true =>
      rw [hn0] at h
      have := Nat.eq_of_beq_eq_true hn0
      subst this
      simp only [cond_true, Option.some.injEq, Prod.mk.injEq] at h
      obtain ⟨rfl, rfl⟩ := h
      have hnil : news = [] := List.length_eq_zero_iff.1 (by rw [n2.newsLen]; simp)
      subst hnil
      have hr := run_append_nothing (P := P) w t tx ty e i hu hi none 0 0 (Nat.le_refl _) y' (by rw [hisz]; exact n2)
      exact ⟨φ, .value (.slice none 0 0), _, w, by simp only [Sem.run_bind, hr, Result.andThen_ok, Sem.run_pure], .inl rfl, H, .sliceNil _ _ _ _, Goes.refl _ _ _ _⟩
    | false =>
      rw [hn0] at h
      have hn1 := Nat.ne_of_beq_eq_false hn0
      simp only [cond_false] at h
      cases hq : (growOk n (P.bytesOf e) && (zeroC P e).isSome) with
      | false => rw [hq] at h; cases h
      | true =>
        rw [hq] at h
        simp only [Bool.and_eq_true] at hq
        simp only [cond_true, Option.some.injEq, Prod.mk.injEq] at h
        obtain ⟨rfl, rfl⟩ := h
        obtain ⟨g1, g2⟩ := growOk_ok hq.1
        obtain ⟨z, hz⟩ := Option.isSome_iff_exists.1 hq.2
        obtain ⟨zv, i', z1, z2, z3, z4, z5, z6, z7⟩ := zeroC_ok (φ := φ) hz
        rw [hi] at z1
        cases z1
        have hfit : Builtin.nextslicecap (0 + n) 0 * i.bytes ≤ 281474976710656 := by
          rw [← hby]
          have := nextslicecap_le (n := 0 + n) (old := 0) (by omega)
          exact Nat.le_trans (Nat.mul_le_mul_right _ this) (by simpa using g1)
        have hr := run_append_grow_src (P := P) w t tx ty e i zv hu hi z2 none 0 0 [] rfl y' n news (by rw [hisz]; exact n2) (by omega) (by omega) hfit
        have hge := grownCap_ge w (0 + n) 0 e
        obtain ⟨f1, f2⟩ := H.fresh
        have ho := ORel.grown (φ := φ.put A.next (w.heap.size, 0, (([] ++ news).toArray ++ Builtin.zeroCells zv.cells (grownCap w (0 + n) 0 e - (0 + n))).size)) (e := e) (ty := e) (old := []) (new := new) (olds := []) (z := zv.cells)
          (k := grownCap w (0 + n) 0 e - (0 + n)) (sib := none) (.inr rfl) .nil (n1.mono (Phi.le_put _ _ _ f1)) (by simp) n2.one
        refine ⟨φ.put A.next (w.heap.size, 0, (([] ++ news).toArray ++ Builtin.zeroCells zv.cells (grownCap w (0 + n) 0 e - (0 + n))).size), .value (.slice (some ⟨w.heap.size, 0, none⟩) (0 + n) (grownCap w (0 + n) 0 e)), _, _, by simp only [Sem.run_bind, hr, Result.andThen_ok, Sem.run_pure]; rfl, .inl rfl, ?_, ?_,
          Goes.alloc (n := w.drawn + 1) (s := 0) f1 (AW.get_push A _) (by rw [AW.next_push]; omega) (Nat.le_refl _)⟩
        · exact H.alloc f1 f2 (AW.get_push A _) (by rw [AW.next_push]; omega) (by rw [AW.next_push]; omega) ho
        · have hsize : (([] ++ news).toArray ++ Builtin.zeroCells zv.cells (grownCap w (0 + n) 0 e - (0 + n))).size = grownCap w (0 + n) 0 e * sz P e := by
            simp only [Array.size_append, List.size_toArray, List.nil_append, n2.newsLen, zeroCells_size, z6]
            rw [← Nat.add_mul]; congr 1; omega
          have hsl := VRel.slice (φ := φ.put A.next (w.heap.size, 0, (([] ++ news).toArray ++ Builtin.zeroCells zv.cells (grownCap w (0 + n) 0 e - (0 + n))).size)) (b := A.next) (off := 0) (len := 0 + n) (cap := 0 + n) (cap' := grownCap w (0 + n) 0 e)
            (z := sz P e) (ex := false) (a := ⟨w.heap.size, 0, none⟩) (Phi.put_same _ _ _) hge (fun h => by cases h) (Nat.le_refl _) (by rw [hsize]; omega) (fun _ => rfl)
          simpa using hsl
  · rename_i b off len cap z ex
    obtain ⟨R, s, l, a, cap', rfl, hφ, hc, he, hl, hb, ha⟩ := hx.slice_inv
    cases hzz : Nat.beq z (sz P e) with
    | false => rw [hzz] at h; cases h
    | true =>
    rw [hzz] at h
    have hzz := Nat.eq_of_beq_eq_true hzz
    subst hzz
    simp only [Bool.not_true, cond_false] at h
    cases hroom : Nat.ble (Nat.add len n) cap with
    | true =>
      rw [hroom] at h
      have hroom := Nat.le_of_ble_eq_true hroom
      simp only [Nat.add_eq] at hroom
      simp only [cond_true] at h
      cases hn0 : Nat.beq n 0 with
      | true =>
        rw [hn0] at h
        have := Nat.eq_of_beq_eq_true hn0
        subst this
        simp only [cond_true, Option.some.injEq, Prod.mk.injEq] at h
        obtain ⟨rfl, rfl⟩ := h
        have hnil : news = [] := List.length_eq_zero_iff.1 (by rw [n2.newsLen]; simp)
        subst hnil
        have hr := run_append_nothing (P := P) w t tx ty e i hu hi (some a) len cap' (by omega) y' (by rw [hisz]; exact n2)
        exact ⟨φ, .value (.slice (some a) len cap'), _, w, by simp only [Sem.run_bind, hr, Result.andThen_ok, Sem.run_pure], .inl rfl, H, hx, Goes.refl _ _ _ _⟩
      | false =>
        rw [hn0] at h
        have hn1 := Nat.ne_of_beq_eq_false hn0
        simp only [cond_false] at h
        split at h
        · rename_i A1 hp
          simp only [Option.some.injEq, Prod.mk.injEq] at h
          obtain ⟨rfl, rfl⟩ := h
          have hadr := ha (by omega)
          subst hadr
          simp only [Nat.add_eq, Nat.mul_eq] at hp
          obtain ⟨p1, p2, p3, p4⟩ := H.put (lo := A.next) hp hφ n1 n2.one
          have hr := run_append_room_src (P := P) w t tx ty e i hu hi R (s + off) len cap' y' n news (by rw [hisz]; exact n2) (by omega) (by rw [hisz, Nat.add_assoc]; exact p1) (by rw [hisz, Nat.add_assoc]; exact p2)
          rw [hisz, Nat.add_assoc s off] at hr
          refine ⟨φ, .value (.slice (some ⟨R, s + off, none⟩) (len + n) cap'), _, _, by simp only [Sem.run_bind, hr, Result.andThen_ok, Sem.run_pure], .inl rfl, p3, ?_, p4⟩
          exact .slice hφ hc he (by simp only [Nat.add_eq]; omega) hb (fun _ => rfl)
        · cases h
    | false =>
      rw [hroom] at h
      have hroom : ¬ (Nat.add len n ≤ cap) := fun hle => by rw [Nat.ble_eq_true_of_le hle] at hroom; cases hroom
      simp only [Nat.add_eq] at hroom
      simp only [cond_false] at h
      cases hq : (growOk (Nat.add len n) (P.bytesOf e) && (zeroC P e).isSome) with
      | false => rw [hq] at h; cases h
      | true =>
      rw [hq] at h
      simp only [Bool.and_eq_true] at hq
      simp only [cond_true] at h
      obtain ⟨g1, g2⟩ := growOk_ok hq.1
      simp only [Nat.add_eq] at g1 g2
      obtain ⟨z, hz⟩ := Option.isSome_iff_exists.1 hq.2
      obtain ⟨zv, i', z1, z2, z3, z4, z5, z6, z7⟩ := zeroC_ok (φ := φ) hz
      rw [hi] at z1
      cases z1
      split at h
      · rename_i ty0 cs ro sib hA
        obtain ⟨R', s', l', c, ety, fl, fh, b1, b2, b3, b4, b5, b6, b7, b8⟩ := H.block hA
        rw [hφ] at b1
        cases b1
        unfold growA at h
        split at h
        · cases h
        · rename_i old hold
          obtain ⟨us, u1, u2, u3, u4⟩ := H.range hA hφ hold
          simp only [Nat.mul_eq] at u2
          have hlen0 : 0 < len → 0 < cap' := fun h => by omega
          have hfc : (Builtin.firstCells i.size len (.slice (some a) len cap')).run P w.drew = .ok us.toArray w.drew := by
            refine run_firstCells_list (by rw [hisz]; omega) fun j u hj => ?_
            have hj0 : j < us.length := (List.getElem?_eq_some_iff.1 hj).1
            have hp0 : 0 < len := by
              rcases Nat.eq_zero_or_pos len with h0 | h0
              · rw [h0, Nat.zero_mul] at u2; omega
              · exact h0
            rw [ha (hlen0 hp0), Addr.add_mid]
            exact u4 j u hj
          -- a new row
          have grow : cap' < len + n → ∀ {A1 : AW} {ty1 : TypeId} {sib1 : Option Nat}, A1.next = A.next → HRel φ A1 w.heap → Goes A.next φ A w φ A1 w → (ty1 = noTy ∨ ty1 = e) →
              ∃ φ' nx u w', (do pure (.value (← Builtin.append_ #[t, tx] ty #[.slice (some a) len cap', y'])) : Sem Next).run P w = .ok nx w' ∧ Done nx u ∧ HRel φ' (A1.push (.cells ty1 (old ++ new) false sib1)) w'.heap ∧
                VRel φ' (.slice (some (A.next, 0)) (Nat.add len n) (Nat.add len n) (sz P e) false) u ∧ Goes A.next φ A w φ' (A1.push (.cells ty1 (old ++ new) false sib1)) w' := by
            intro hg A1 ty1 sib1 hnx H1 G1 hty
            have hfit : Builtin.nextslicecap (len + n) cap' * i.bytes ≤ 281474976710656 := by
              rw [← hby]
              have := nextslicecap_le (n := len + n) (old := cap') hg
              exact Nat.le_trans (Nat.mul_le_mul_right _ this) g1
            have hr := run_append_grow_src (P := P) w t tx ty e i zv hu hi z2 (some a) len cap' us hfc y' n news (by rw [hisz]; exact n2) hg (by omega) hfit
            have hge := grownCap_ge w (len + n) cap' e
            obtain ⟨f1, f2⟩ := H1.fresh
            rw [hnx] at f1 f2
            have ho := ORel.grown (φ := φ.put A.next (w.heap.size, 0, ((us ++ news).toArray ++ Builtin.zeroCells zv.cells (grownCap w (len + n) cap' e - (len + n))).size)) (e := e) (ty := ty1) (old := old) (new := new) (olds := us) (z := zv.cells)
              (k := grownCap w (len + n) cap' e - (len + n)) (sib := sib1) hty (u1.mono (Phi.le_put _ _ _ f1)) (n1.mono (Phi.le_put _ _ _ f1)) u3 n2.one
            have hget := AW.get_push A1 (.cells ty1 (old ++ new) false sib1)
            rw [hnx] at hget
            refine ⟨φ.put A.next (w.heap.size, 0, ((us ++ news).toArray ++ Builtin.zeroCells zv.cells (grownCap w (len + n) cap' e - (len + n))).size), .value (.slice (some ⟨w.heap.size, 0, none⟩) (len + n) (grownCap w (len + n) cap' e)), _, _, by simp only [Sem.run_bind, hr, Result.andThen_ok, Sem.run_pure]; rfl, .inl rfl, ?_, ?_,
              G1.trans (Goes.alloc (n := w.drawn + 1) (s := 0) f1 hget (by rw [AW.next_push]; omega) (Nat.le_refl _))⟩
            · exact H1.alloc f1 f2 hget (by rw [AW.next_push]; omega) (by rw [AW.next_push]; omega) ho
            · have hsize : ((us ++ news).toArray ++ Builtin.zeroCells zv.cells (grownCap w (len + n) cap' e - (len + n))).size = grownCap w (len + n) cap' e * sz P e := by
                simp only [Array.size_append, List.size_toArray, List.length_append, n2.newsLen, u2, zeroCells_size, z6]
                rw [← Nat.add_mul, ← Nat.add_mul]; congr 1; omega
              exact .slice (Phi.put_same _ _ _) hge (fun h => by cases h) (Nat.le_refl _) (by rw [hsize]; omega) (fun _ => rfl)
          cases hex : ex with
          | true =>
            rw [hex] at h
            simp only [cond_true, Option.some.injEq, Prod.mk.injEq] at h
            obtain ⟨rfl, rfl⟩ := h
            have := he hex
            exact grow (by omega) rfl H (Goes.refl _ _ _ _) (.inr rfl)
          | false =>
            rw [hex] at h
            simp only [cond_false] at h
            cases hro : ro with
            | true => rw [hro] at h; cases h
            | false =>
              rw [hro] at h hA b7
              simp only [cond_false] at h
              subst hro
              -- in place, or in a row anew
              have both : ∀ (ob : Option AObj) (sib1 : Option Nat), (ob = none ∧ sib1 = none) ∨ (ob = some (.cells ty0 cs false (some A.next)) ∧ sib1 = some b ∧ off + len * sz P e = cs.length) →
                  ∃ φ' nx u w', (do pure (.value (← Builtin.append_ #[t, tx] ty #[.slice (some a) len cap', y'])) : Sem Next).run P w = .ok nx w' ∧ Done nx u ∧ HRel φ' (((A.kill sib).set b ob).push (.cells (rowTy e ty0 off) (old ++ new) false sib1)) w'.heap ∧
                    VRel φ' (.slice (some (A.next, 0)) (Nat.add len n) (Nat.add len n) (sz P e) false) u ∧ Goes A.next φ A w φ' (((A.kill sib).set b ob).push (.cells (rowTy e ty0 off) (old ++ new) false sib1)) w' := by
                intro ob sib1 hob
                by_cases hfit : len + n ≤ cap'
                · have hadr := ha (by omega)
                  subst hadr
                  have hmul : (len + n) * sz P e ≤ cap' * sz P e := Nat.mul_le_mul_right _ hfit
                  rw [Nat.add_mul] at hmul
                  have hnw : news.length = n * sz P e := n2.newsLen
                  obtain ⟨p1, p2, p3, p4⟩ := H.inPlace (e := e) (ob := ob) (sib1 := sib1) hA hφ hob hold n1 n2.one (by omega)
                  have hr := run_append_room_src (P := P) w t tx ty e i hu hi R (s + off) len cap' y' n news (by rw [hisz]; exact n2) hfit (by rw [hisz]; exact p1) (by rw [hisz]; exact p2)
                  rw [hisz] at hr
                  refine ⟨φ.put A.next (R, s + off, l - off), .value (.slice (some ⟨R, s + off, none⟩) (len + n) cap'), _, _, by simp only [Sem.run_bind, hr, Result.andThen_ok, Sem.run_pure], .inl rfl, p3, ?_, p4⟩
                  exact .slice (Phi.put_same _ _ _) hfit (fun h => by cases h) (Nat.le_refl _) (by omega) (fun _ => rfl)
                · have hg : ∀ x, ((A.kill sib).set b ob).get x = A.get x ∨ ((A.kill sib).set b ob).get x = none ∨ (x = b ∧ ((A.kill sib).set b ob).get x = some (.cells ty0 cs false (some A.next))) := by
                    intro x
                    rw [AW.get_set, kill_get]
                    split
                    · rename_i he
                      rcases hob with ⟨h, _⟩ | ⟨h, _⟩
                      · exact .inr (.inl h)
                      · exact .inr (.inr ⟨he, h⟩)
                    · split
                      · exact .inr (.inl rfl)
                      · exact .inl rfl
                  have hnx : ((A.kill sib).set b ob).next = A.next := by rw [AW.next_set, kill_next]
                  refine grow (by omega) hnx (H.drop hA hnx hg fun c hcb hc => ?_) (Goes.drop hA hnx hg) (rowTy_or e ty0 off)
                  rw [AW.get_set, kill_get, if_neg hcb, if_pos hc]
              cases hbq : Nat.beq (Nat.add off (Nat.mul len (sz P e))) cs.length with
              | true =>
                rw [hbq] at h
                simp only [cond_true, Option.some.injEq, Prod.mk.injEq] at h
                obtain ⟨rfl, rfl⟩ := h
                exact both _ _ (.inr ⟨rfl, rfl, Nat.eq_of_beq_eq_true hbq⟩)
              | false =>
                rw [hbq] at h
                simp only [cond_false, Option.some.injEq, Prod.mk.injEq] at h
                obtain ⟨rfl, rfl⟩ := h
                exact both _ _ (.inl ⟨rfl, rfl⟩)
      · cases h
  · cases h

end
end Go.Ae

/- Texts out of bytes; builtins. -/
namespace Go.Ae
open Go
section
variable {P : Program} {φ : Phi} {A : AW}

/-- a block where nothing lives -/
theorem HRel.away {h h' : Array Obj} (H : HRel φ A h) {R : Nat} (hn : ∀ x o s l, A.get x = some o → φ x ≠ some (R, s, l)) (hs : h'.size = h.size) (hk : ∀ R', R' ≠ R → h'[R']? = h[R']?) : HRel φ A h' := by
  refine ⟨H.low, fun x R1 s l hx => ?_, fun x o hx => ?_, H.sep⟩
  · rw [hs]; exact H.dom x R1 s l hx
  · obtain ⟨R1, s, l, obj, e1, e2, e3⟩ := H.con x o hx
    refine ⟨R1, s, l, obj, e1, ?_, e3⟩
    rw [hk R1 (fun he => by subst he; exact hn x o s l hx e1)]
    exact e2

theorem freeze_heap (w : World) (a : Addr) (n : Nat) : (w.freeze a n).heap.size = w.heap.size ∧ (∀ R', R' ≠ a.block → (w.freeze a n).heap[R']? = w.heap[R']?) ∧ (w.freeze a n).os = w.os ∧ (w.freeze a n).output = w.output ∧ (w.freeze a n).tape = w.tape := by
  unfold World.freeze
  split
  · exact ⟨rfl, fun _ _ => rfl, rfl, rfl, rfl⟩
  · refine ⟨by simp, fun R' h => ?_, rfl, rfl, rfl⟩
    simp only [Array.getElem?_modify]
    rw [if_neg (Ne.symm h)]

theorem run_loadBytes {w : World} {R : Nat} : ∀ (s : List Nat) (o : Nat) (acc : ByteArray), (∀ j n, s[j]? = some n → w.cell? ⟨R, o + j, none⟩ = some (.int .u8 (Int.ofNat n))) →
    (loadBytes ⟨R, o, none⟩ acc s.length).run P w = .ok (s.foldl (fun r n => r.push n.toUInt8) acc) w
  | [], o, acc, h => rfl
  | n :: s, o, acc, h => by
    have h0 := h 0 n rfl
    simp only [Nat.add_zero] at h0
    have ih := run_loadBytes s (o + 1) (acc.push n.toUInt8) (fun j m hj => by
      have := h (j + 1) m (by simpa using hj)
      rwa [show o + (j + 1) = o + 1 + j by omega] at this)
    simp only [List.length_cons, loadBytes, Sem.run_bind, run_load h0, Result.andThen_ok, Addr.add_mid, List.foldl_cons]
    exact ih

theorem foldl_push2 : ∀ (s : List Nat) (r : ByteArray), bytesOfStr (s.foldl (fun r n => r.push n.toUInt8) r) = bytesOfStr r ++ s.map fun n => (UInt8.ofNat n).toNat
  | [], r => by simp
  | n :: s, r => by
    simp only [List.foldl_cons]
    rw [foldl_push2 s]
    simp [bytesOfStr, List.append_assoc, Nat.toUInt8]

theorem run_freeze {w : World} (a : Addr) (n : Nat) : (freeze a n).run P w = .ok () (w.freeze a n) := rfl

theorem hUnsafeString_ok {ty t : TypeId} {ts : Array TypeId} {x y : AV} {x' y' : Value} (ht : ts[0]? = some t) (hx : VRel φ x x') (hy : VRel φ y y') :
    OpOk P φ A (do pure (.value (← Builtin.unsafeString_ ts ty #[x', y']))) (.ofEf (hUnsafeString P A t x y)) := by
  refine .ofEf fun v A' h => ?_
  unfold hUnsafeString at h
  split at h
  · cases h
  · rename_i n hn
    obtain ⟨k, rfl⟩ := asNat_ok hn hy
    intro w H
    have h0 : ¬ ((n : Int) < 0) := by omega
    split at h
    · cases hx
      cases hb : Nat.beq n 0 with
      | false => rw [hb] at h; cases h
      | true =>
        rw [hb] at h
        have := Nat.eq_of_beq_eq_true hb
        subst this
        simp only [cond_true, Option.some.injEq, Prod.mk.injEq] at h
        obtain ⟨rfl, rfl⟩ := h
        have he : bytesOfStr ByteArray.empty = [] := rfl
        refine ⟨φ, .value (.string .empty), .string .empty, w, ?_, .inl rfl, H, by rw [← he]; exact .str _, Goes.refl _ _ _ _⟩
        have en := fun (ts : Array TypeId) (ty : TypeId) (y : Value) => (show Builtin.unsafeString_ ts ty #[.pointer none, y] = (asInt y >>= _) from rfl)
        simp [en, ht, asInt, asIntOf, IntKind.max, IntKind.signed, IntKind.bits]
    · rename_i b off
      obtain ⟨R, s, l, rfl, hφ⟩ := hx.ptr_inv
      cases hb : Nat.beq n 0 with
      | true =>
        rw [hb] at h
        have := Nat.eq_of_beq_eq_true hb
        subst this
        simp only [cond_true, Option.some.injEq, Prod.mk.injEq] at h
        obtain ⟨rfl, rfl⟩ := h
        have he : bytesOfStr ByteArray.empty = [] := rfl
        refine ⟨φ, .value (.string .empty), .string .empty, w, ?_, .inl rfl, H, by rw [← he]; exact .str _, Goes.refl _ _ _ _⟩
        have es := fun (ts : Array TypeId) (ty : TypeId) (a : Addr) (y : Value) => (show Builtin.unsafeString_ ts ty #[.pointer (some a), y] = (asInt y >>= _) from rfl)
        simp [es, ht, asInt, asIntOf, IntKind.max, IntKind.signed, IntKind.bits]
      | false =>
        rw [hb] at h
        have hn0 := Nat.ne_of_beq_eq_false hb
        simp only [cond_false] at h
        split at h
        · rename_i e hu
          split at h
          · rename_i ty0 cs ro sib hA
            cases hq : (ro || Nat.beq ty0 noTy || !liesAt P P.depth ty0 (Nat.div cs.length (sz P ty0)) off e n || !Nat.ble n 4611686018427387904) with
            | true => rw [hq] at h; cases h
            | false =>
              rw [hq] at h
              simp only [Bool.or_eq_false_iff, Bool.not_eq_false'] at hq
              obtain ⟨⟨⟨rfl, q2⟩, q3⟩, q4⟩ := hq
              have q4 := Nat.le_of_ble_eq_true q4
              simp only [cond_false] at h
              split at h
              · rename_i lst hcut
                split at h
                · rename_i str hstr
                  simp only [Option.some.injEq, Prod.mk.injEq] at h
                  obtain ⟨rfl, rfl⟩ := h
                  obtain ⟨rfl, hva⟩ := run_variablesAt (P := P) H hA hφ q2 q3
                  obtain ⟨us, u1, u2, u3, u4⟩ := H.range hA hφ hcut
                  obtain ⟨hus, hlt⟩ := asBytes_ok hstr u1
                  have hlen : str.length = n := by rw [← u2, hus]; simp
                  have hload := run_loadBytes (P := P) (w := w) (R := R) str (0 + off) ByteArray.empty (fun j m hj => u4 j _ (by rw [hus]; simp [hj]))
                  rw [hlen] at hload
                  obtain ⟨z1, z2, z3, z4, z5⟩ := freeze_heap w ⟨R, 0 + off, none⟩ n
                  have only : ∀ x o s1 l1, x ≠ b → A.get x = some o → φ x = some (R, s1, l1) → sib = some x := by
                    intro x o s1 l1 hx ho hf
                    rcases H.sep b x _ o R 0 l s1 l1 (Ne.symm hx) hA ho hφ hf with h | h
                    · cases h.1
                    · exact h.1
                  have hg : ∀ x, ((A.kill sib).set b none).get x = A.get x ∨ ((A.kill sib).set b none).get x = none ∨ (x = b ∧ ((A.kill sib).set b none).get x = some (.cells ty0 cs false none)) := by
                    intro x
                    rw [AW.get_set, kill_get]
                    split
                    · exact .inr (.inl rfl)
                    · split
                      · exact .inr (.inl rfl)
                      · exact .inl rfl
                  have hnx : ((A.kill sib).set b none).next = A.next := by rw [AW.next_set, kill_next]
                  have H1 := H.drop hA hnx hg (fun c hcb hc => by rw [AW.get_set, kill_get, if_neg hcb, if_pos hc])
                  have G1 := Goes.drop (φ := φ) (lo := A.next) (w := w) hA hnx hg
                  have hno : ∀ x o s1 l1, ((A.kill sib).set b none).get x = some o → φ x ≠ some (R, s1, l1) := by
                    intro x o s1 l1 hx hf
                    rw [AW.get_set, kill_get] at hx
                    split at hx
                    · cases hx
                    · rename_i hxb
                      split at hx
                      · cases hx
                      · rename_i hs
                        exact hs (only x o s1 l1 hxb hx hf)
                  refine ⟨φ, .value (.string (str.foldl (fun r n => r.push n.toUInt8) ByteArray.empty)), _, w.freeze ⟨R, 0 + off, none⟩ n, ?_, .inl rfl, H1.away hno z1 z2, ?_, ?_⟩
                  · have h63 : ¬ ((n : Int) > IntKind.i64.max) := by simp [IntKind.max, IntKind.signed, IntKind.bits]; omega
                    have hni : ¬ ((n : Int) = 0) := by omega
                    have hnz : ¬ n = 0 := hn0
                    have es := fun (ts : Array TypeId) (ty : TypeId) (a : Addr) (y : Value) => (show Builtin.unsafeString_ ts ty #[.pointer (some a), y] = (asInt y >>= _) from rfl)
                    simp only [es, ht, asInt, asIntOf, Sem.run_bind, Sem.run_pure, Result.andThen_ok, h0, if_false, h63, hni, elemOf, run_underlying hu, Int.toNat_natCast, hva, if_true, hload, run_freeze]
                  · have hf := foldl_push2 str ByteArray.empty
                    rw [map_ofNat_id str hlt] at hf
                    have h0 : bytesOfStr ByteArray.empty = [] := rfl
                    rw [h0, List.nil_append] at hf
                    have hv2 := VRel.str (φ := φ) (str.foldl (fun r n => r.push n.toUInt8) ByteArray.empty)
                    rw [hf] at hv2
                    exact hv2
                  · refine ⟨Phi.le_refl _, by rw [hnx]; exact Nat.le_refl _, by rw [z1]; exact Nat.le_refl _, fun R1 hR1 hnn => ?_, fun x o R1 s1 l1 hx hr hf hR1 => G1.img x o R1 s1 l1 hx hr hf hR1, fun x o R1 s1 l1 hx hf hR1 => G1.img2 x o R1 s1 l1 hx hf hR1, fun x R1 s1 l1 h1 h2 => (by rw [h2] at h1; cases h1), z3, z4, z5⟩
                    exact z2 R1 (fun he => by subst he; exact hnn b _ 0 l hA rfl hφ)
                · cases h
              · cases h
          · cases h
        · cases h
    · cases h

end
end Go.Ae

/- Builtins, methods, calls: the whole of an operation. -/
namespace Go.Ae
open Go
section
variable {P : Program} {φ : Phi} {A : AW}

theorem VRels.one {x : AV} {args : Array Value} (h : VRels φ [x] args.toList) : ∃ x', args = #[x'] ∧ VRel φ x x' := by
  cases args with
  | mk l =>
    cases h with
    | cons h t => cases t; exact ⟨_, rfl, h⟩
theorem VRels.two {x y : AV} {args : Array Value} (h : VRels φ [x, y] args.toList) : ∃ x' y', args = #[x', y'] ∧ VRel φ x x' ∧ VRel φ y y' := by
  cases args with
  | mk l =>
    cases h with
    | cons h t => cases t with
      | cons h' t' => cases t'; exact ⟨_, _, rfl, h, h'⟩

theorem OpOk.bad {m : Sem Next} : OpOk P φ A m .bad := trivial

theorem complex_rfl (ts : Array TypeId) (ty : TypeId) (k k' : FloatKind) (a b : Nat) : Builtin.complex_ ts ty #[.float k a, .float k' b] = if k = k' then pure (.complex k a b) else stuck "complex: parts of different kinds" := rfl
theorem sliceData_rfl (ts : Array TypeId) (ty : TypeId) (a : Addr) (n c : Nat) : Builtin.unsafeSliceData_ ts ty #[.slice (some a) n (c + 1)] = pure (.pointer (some a)) := rfl

theorem hBuiltin_ok {b : Builtin} {ts : Array TypeId} {ty : TypeId} {consts : Array Bool} {args : List AV} {args' : Array Value} (ha : VRels φ args args'.toList) :
    OpOk P φ A (builtin b ts ty consts args') (hBuiltin P A b ts args) := by
  unfold hBuiltin
  split
  · split
    · exact fun w => rfl
    · exact .bad
  · rename_i t ht
    split
    · rename_i x
      obtain ⟨x', rfl, hx⟩ := ha.one
      split
      · simp only [builtin]
        cases hl : lenT P t x with
        | false => exact .bad
        | true => exact hLen_ok ht rfl hl hx
      · split
        · rename_i e hu
          exact .ofVal fun r h => hCap_ok ht rfl hu h hx
        · exact .bad
      · simp only [builtin]
        cases hu : (P.underlying t).isSome with
        | false => exact .bad
        | true => exact hClear_ok ht (by intro h; rw [h] at hu; cases hu) hx
      · split
        · obtain ⟨k, a, b⟩ : ∃ k a b, x' = .complex k a b := by cases hx; exact ⟨_, _, _, rfl⟩
          cases hx
          exact .gives ⟨_, .float _ _, fun w => rfl⟩
        · exact .bad
      · split
        · cases hx
          exact .gives ⟨_, .float _ _, fun w => rfl⟩
        · exact .bad
      · split
        · rename_i a len c z ex
          cases hb : Nat.beq c 0 with
          | true => exact .bad
          | false =>
            have hc0 := Nat.ne_of_beq_eq_false hb
            obtain ⟨b, off⟩ := a
            obtain ⟨R, s, l, a, cap', rfl, hφ, hc, he, hl, hb, ha⟩ := hx.slice_inv
            have hadr := ha (by omega)
            subst hadr
            exact ⟨_, .ptr hφ, fun w => by
              obtain ⟨c', rfl⟩ : ∃ c', cap' = c' + 1 := ⟨cap' - 1, by omega⟩
              simp only [builtin, sliceData_rfl, Sem.run_bind, Result.andThen_ok, Sem.run_pure]⟩
        · cases hx
          exact .gives ⟨_, .ptrNil, fun w => rfl⟩
        · exact .bad
      · exact .bad
    · rename_i x y
      obtain ⟨x', y', rfl, hx, hy⟩ := ha.two
      split
      · split
        · rename_i e hu
          cases hq : (Nat.beq (sz P e) 0 || !appT P ts) with
          | true => exact .bad
          | false =>
            simp only [Bool.or_eq_false_iff, Bool.not_eq_false'] at hq
            simp only [cond_false]
            split
            · rename_i n hn
              split
              · rename_i new hsrc
                exact hAppend_ok ht hq.2 hu (Nat.ne_of_beq_eq_false hq.1) hn hsrc hx hy
              · exact .bad
            · exact .bad
        · exact .bad
      · split
        · rename_i e hu
          cases hq : Nat.beq (sz P e) 0 with
          | true => exact .bad
          | false => exact hCopy_ok ht hu (Nat.ne_of_beq_eq_false hq) hx hy
        · exact .bad
      · split
        · rename_i kt et hu
          exact hDelete_ok ht hu hx hy
        · exact .bad
      · exact hUnsafeString_ok ht hx hy
      · split
        · cases hx; cases hy
          split
          · rename_i hk
            subst hk
            exact .gives ⟨_, .complex _ _ _, fun w => by rw [complex_rfl]; simp⟩
          · exact .bad
        · exact .bad
      · split
        · cases hx; cases hy
          rename_i k a k' b
          cases hk : kindEq k k' with
          | false => exact .bad
          | true =>
            obtain rfl := kindEq_eq hk
            simp only [cond_true]
            refine .gives ⟨_, .int _ _, fun w => ?_⟩
            simp only [Builtin.max_, List.foldlM_cons, List.foldlM_nil, Builtin.max2, Sem.run_bind, Sem.run_pure, Result.andThen_ok, ltI_eq]
            by_cases h : a < b <;> simp [h]
        · exact .bad
      · split
        · cases hx; cases hy
          rename_i k a k' b
          cases hk : kindEq k k' with
          | false => exact .bad
          | true =>
            obtain rfl := kindEq_eq hk
            simp only [cond_true]
            refine .gives ⟨_, .int _ _, fun w => ?_⟩
            simp only [Builtin.min_, List.foldlM_cons, List.foldlM_nil, Builtin.min2, Sem.run_bind, Sem.run_pure, Result.andThen_ok, ltI_eq]
            by_cases h : b < a <;> simp [h]
        · exact .bad
      · exact .bad
    · exact .bad

end
end Go.Ae

/- Methods, calls, and THE LAW of an operation. -/
namespace Go.Ae
open Go
section
variable {P : Program} {φ : Phi} {A : AW}

theorem run_typeInfo {t : TypeId} {i : TypeInfo} (h : P.info? t = some i) (w : World) : (typeInfo t).run P w = .ok i w := by simp [typeInfo, h]

theorem methodA_ok {t : TypeId} {v : AV} {v' : Value} {name : String} {f : FuncId} {x : AV} (h : methodA P t v name = some (f, x)) (hv : VRel φ v v') (fuel : Nat) :
    ∃ x', VRel φ x x' ∧ ∀ w, (method (fuel + 1) t v' name).run P w = .ok (f, x') w := by
  unfold methodA at h
  cases hi : P.info? t with
  | none => rw [hi] at h; cases h
  | some inf =>
    rw [hi] at h
    simp only [Option.bind_some] at h
    cases hm : inf.methods.find? (·.name == name) with
    | none => rw [hm] at h; cases h
    | some m =>
      rw [hm] at h
      simp only [Option.bind_some] at h
      split at h
      · rename_i f0 pr hf
        split at h
        · rename_i hp
          split at h
          · rename_i e hu
            simp only [Option.some.injEq, Prod.mk.injEq] at h
            obtain ⟨rfl, rfl⟩ := h
            refine ⟨v', hv, fun w => ?_⟩
            simp only [method, Sem.run_bind, run_typeInfo hi, Result.andThen_ok, hm, hp, follow, Sem.run_pure, hf, receiverAt, run_underlying hu, Place.get]
          · cases h
          · rename_i d hne hu
            simp only [Option.some.injEq, Prod.mk.injEq] at h
            obtain ⟨rfl, rfl⟩ := h
            refine ⟨v', hv, fun w => ?_⟩
            simp only [method, Sem.run_bind, run_typeInfo hi, Result.andThen_ok, hm, hp, follow, Sem.run_pure, hf, receiverAt, run_underlying hu]
            cases d <;> first
              | rfl
              | exact absurd rfl (hne _)
          · cases h
        · rename_i s hp
          cases hd : s.deref with
          | true => rw [hd] at h; cases h
          | false =>
            rw [hd] at h
            simp only [Bool.false_eq_true, if_false] at h
            split at h
            · rename_i fs cs hu
              obtain ⟨cs', rfl, hcs, hfl⟩ := hv.agg_inv
              split at h
              · rename_i fd hfd
                split at h
                · rename_i x0 e hpa hue
                  simp only [Option.some.injEq, Prod.mk.injEq] at h
                  obtain ⟨rfl, rfl⟩ := h
                  obtain ⟨x', hx1, hx2⟩ := partA_ok hpa hcs hfl
                  refine ⟨x', hx1, fun w => ?_⟩
                  simp only [method, Sem.run_bind, run_typeInfo hi, Result.andThen_ok, hm, hp, follow, run_underlying hu, hfd, hd, Bool.false_eq_true, if_false, hx2, Sem.run_pure, hf, receiverAt, run_underlying hue, Place.get]
                · cases h
              · cases h
            · cases h
        · cases h
      · cases h

theorem hCallF_ok {fv : AV} {fv' : Value} {args : List AV} {args' : Array Value} (hf : VRel φ fv fv') (ha : VRels φ args args'.toList) :
    OpOk P φ A (do let d ← Deferred.ofValue fv' args'; invoke d.target d.args) (hCallF fv args) := by
  unfold hCallF
  split
  · rename_i g first cap
    obtain ⟨x', c', rfl, hx, hc⟩ := hf.func_inv
    refine ⟨(x' ++ args') ++ c', ?_, fun w => ?_⟩
    · simp only [Array.toList_append]
      rw [← List.append_assoc]
      exact (hx.append ha).append hc
    · simp only [Deferred.ofValue, Sem.run_bind, Sem.run_pure, Result.andThen_ok, invoke]
  · rename_i l
    obtain ⟨R, s, l', rfl, hφ⟩ := hf.yield_inv
    refine ⟨R, s, l', args', hφ, ha, fun w => ?_⟩
    simp only [Deferred.ofValue, Sem.run_bind, Sem.run_pure, Result.andThen_ok, invoke, Array.empty_append]
  · exact .bad

theorem extract_one (x : Value) (args : Array Value) : (#[x] ++ args).extract 1 (#[x] ++ args).size = args := by
  apply Array.ext'
  simp

theorem hCall_ok {tmps : Tm} {ρ : Operand → Value} (hE : Env P φ tmps ρ) (c : Call) (ty : TypeId) :
    OpOk P φ A (do let d ← resolve ρ c ty; invoke d.target d.args) (hCall P tmps A c.callee (opds P tmps c.args.toList) c.argTypes) := by
  have ha : VRels φ (opds P tmps c.args.toList) (c.args.map ρ).toList := by rw [Array.toList_map]; exact hE.opds _
  unfold hCall
  cases hc : c.callee with
  | value f =>
    simp only [resolve, hc]
    exact hCallF_ok (hE f) ha
  | invoke r name =>
    simp only []
    split
    · rename_i t v hv
      have hr := hE r
      rw [hv] at hr
      obtain ⟨v', hr', hvv⟩ := hr.iface_inv
      split
      · rename_i f x hm
        obtain ⟨x', h1, h2⟩ := methodA_ok hm hvv (P.types.size + Made.depth - 1)
        refine ⟨#[x'] ++ c.args.map ρ, ?_, fun w => ?_⟩
        · simp only [Array.toList_append]
          exact VRels.append (.cons h1 .nil) ha
        · have hd0 : 0 < Made.depth := by decide
          have hdep : P.types.size + Made.depth - 1 + 1 = P.types.size + Made.depth := by omega
          rw [hdep] at h2
          have hget : (#[ρ r] ++ c.args.map ρ)[0]? = some (ρ r) := by rw [Array.getElem?_append_left (by simp)]; rfl
          rw [hr'] at hget
          simp only [resolve, hc, Sem.run_bind, Sem.run_pure, Result.andThen_ok, invoke, hget, extract_one, hr', callMethod, run_prog, h2]
      · exact .bad
    · exact .bad
  | builtin b =>
    simp only [resolve, hc]
    exact hBuiltin_ok ha

theorem PRel.of {tmps : Tm} {ρ : Operand → Value} (hE : Env P φ tmps ρ) (ps : Array (Nat × Operand)) : PRel φ (parts P tmps ps.toList) (ps.map fun (i, x) => (i, ρ x)).toList := by
  rw [Array.toList_map]; exact hE.parts _

theorem hSliceArr_or (t : TypeId) (b off : Nat) (lo hi mx : Option AV) : (∃ q, hSliceArr P t b off lo hi mx = .rd q) ∨ hSliceArr P t b off lo hi mx = .bad := by
  unfold hSliceArr
  split
  · rename_i n e _
    cases szEq P e (sz P e) with
    | false => exact .inr rfl
    | true =>
      simp only [cond_true]
      split
      · exact .inl ⟨_, rfl⟩
      · exact .inr rfl
  · exact .inr rfl

/-- THE LAW of an operation: what it comes to, at both. -/
theorem execOp_ok {tmps : Tm} {ρ : Operand → Value} (hE : Env P φ tmps ρ) (o : Oper) : OpOk P φ A (execOp ρ o) (opRes P tmps A o.op) := by
  obtain ⟨dst, op, ty, pos, after, guard⟩ := o
  cases op <;> simp only [opRes, execOp]
  case move x => exact ⟨_, hE x, fun w => rfl⟩
  case assign x => exact ⟨_, hE x, fun w => rfl⟩
  case pick c a b =>
    have hC := hE c
    cases hc : opd P tmps c with
    | bool t =>
      rw [hc] at hC
      have hC' : ρ c = .bool t := by generalize ρ c = v at hC; cases hC; rfl
      cases t with
      | true => exact ⟨_, hE a, fun w => by rw [hC']; rfl⟩
      | false => exact ⟨_, hE b, fun w => by rw [hC']; rfl⟩
    | _ => exact .bad
  case alloc t => exact hAlloc_ok
  case box t x => exact hBox_ok (hE x)
  case build t ps => exact .ofVal fun r h => hBuild_ok h (PRel.of hE ps)
  case buildSlice t len ps => exact hBuildSlice_ok (PRel.of hE ps)
  case load t a =>
    unfold hLoad
    split
    · rename_i b off hx
      exact .read (load_ok (by rw [← hx]; exact hE a))
    · exact .bad
  case store t a x => exact hStore_ok (hE a) (hE x)
  case nilCheck x =>
    cases hn : hNil (opd P tmps x) with
    | none => exact .bad
    | some r =>
      obtain ⟨h1, h2, h3, h4, h5⟩ := hNil_ok hn (hE x)
      refine ⟨ρ x, h1, fun w => ?_⟩
      generalize ρ x = v at h1 h2 h3 h4 h5
      cases v with
      | pointer a => cases a with
        | none => exact absurd rfl (h2 _ rfl)
        | some a => rfl
      | nilIface => exact absurd rfl h3
      | nilFunc => exact absurd rfl h4
      | func fn f c => cases fn with
        | method n => exact absurd rfl (h5 _ _ _)
        | _ => rfl
      | _ => rfl
  case binOp bop t x y z =>
    refine .ofVal fun r h => ?_
    exact binA_ok h (hE x) (hE y)
  case unOp uop t x => exact .ofVal fun r h => hUn_ok h (hE x)
  case convert s d x =>
    cases hs : (P.underlying s).isSome with
    | false => exact .bad
    | true => exact hConv_ok hs (hE x)
  case makeInterface t x => exact .ofVal fun r h => hIface_ok h (hE x)
  case makeFunc fn first cap => exact .ofVal fun r h => hFunc_ok h (by rw [Array.toList_map]; exact hE.opds _) (by rw [Array.toList_map]; exact hE.opds _)
  case makeMap t r => exact hMakeMap_ok (hE.opt r)
  case makeSlice t l c => exact hMakeSlice_ok (hE l) (hE c)
  case slice t x lo hi mx =>
    have hX := hE x
    cases hx : opd P tmps x with
    | ptr a =>
      rw [hx] at hX
      cases a with
      | none => exact .ofVal fun r h => hSlice_ok h hX (hE.opt lo) (hE.opt hi) (hE.opt mx)
      | some p =>
        obtain ⟨b, off⟩ := p
        simp only [hSliceO]
        rcases hSliceArr_or (P := P) t b off (lo.map (opd P tmps)) (hi.map (opd P tmps)) (mx.map (opd P tmps)) with ⟨q, hr⟩ | hr
        · rw [hr]; exact .read (hSliceArr_ok hr hX (hE.opt lo) (hE.opt hi) (hE.opt mx))
        · rw [hr]; exact .bad
    | _ =>
      rw [hx] at hX
      exact .ofVal fun r h => hSlice_ok h hX (hE.opt lo) (hE.opt hi) (hE.opt mx)
  case fieldAddr s x f => exact .ofVal fun r h => hFieldAddr_ok h (hE x)
  case field t x f => exact .ofVal fun r h => hField_ok h (hE x)
  case indexAddr t x i => exact .ofVal fun r h => hIndexAddr_ok h (hE x) (hE i)
  case index t x i => exact .ofVal fun r h => hIndex_ok h (hE x) (hE i)
  case lookup t m k ok =>
    unfold hLookup
    split
    · rename_i r hx
      exact .read (lookup_ok (by rw [← hx]; exact hE m) (hE k))
    · exact .bad
  case mapUpdate t m k v => exact hMapUpdate_ok (hE m) (hE k) (hE v)
  case insert t m k v => exact hMapUpdate_ok (hE m) (hE k) (hE v)
  case mapEntry t m k => exact hMapEntry_ok (hE m) (hE k)
  case entryStore t m s v => exact hEntryStore_ok (hE m) (hE s) (hE v)
  case range t x => exact hRange_ok (hE x)
  case next it str =>
    unfold hNext
    cases str with
    | true => exact hNextStr_ok (hE it)
    | false => exact nextMap_ok (hE it)
  case entry it => exact hEntry_ok (hE it)
  case typeAssert x xt t ok => exact .ofVal fun r h => hAssert_ok h (hE x)
  case extract t i => exact .ofVal fun r h => hExtract_ok h (hE t)
  case call c => exact hCall_ok hE c ty
  case defer c =>
    split
    · rename_i f hc
      unfold hDefer
      split
      · rename_i g first cap hf
        have hr := hE f
        rw [hf] at hr
        obtain ⟨x', c', hr', hx, hcc⟩ := hr.func_inv
        refine ⟨c', x' ++ c.args.map ρ, hcc, ?_, fun w => ?_⟩
        · rw [Array.toList_append, Array.toList_map]; exact hx.append (hE.opds _)
        · simp only [resolve, hc, hr', Deferred.ofValue, Sem.run_bind, Sem.run_pure, Result.andThen_ok]
      · exact .bad
    · exact .bad
  case panic x =>
    unfold hPanic
    split
    · rename_i t v hx
      have hr := hE x
      rw [hx] at hr
      obtain ⟨v', hr', hv⟩ := hr.iface_inv
      rw [hr', hx]
      refine ⟨_, .iface hv, fun w => ?_⟩
      simp only [Instr.panic, goPanic, Sem.run_bind, Sem.run, Result.andThen]
    · exact .bad
  all_goals exact .bad

end
end Go.Ae

/- How abstract frames stand for the model's. -/
namespace Go.Ae
open Go

theorem TRel.upd {φ : Phi} {n : Nat} {t : Tm} {a : Array Value} (h : TRel φ n t a) {i : Nat} {v : AV} {v' : Value} (hi : i < n) (hv : VRel φ v v') : TRel φ n (upd t i v) (a.setIfInBounds i v') := by
  refine ⟨by simpa using h.1, fun j => ?_⟩
  unfold Ae.upd
  rw [Tm.get, T.get_set]
  by_cases hj : j = i
  · subst hj
    rw [if_pos rfl]
    have : (a.setIfInBounds j v').getD j undef = v' := by
      rw [Array.getD_eq_getD_getElem?, Array.getElem?_setIfInBounds_self_of_lt (by rw [h.1]; exact hi)]; rfl
    rw [this]; exact hv
  · rw [if_neg hj]
    have : (a.setIfInBounds i v').getD j undef = a.getD j undef := by
      rw [Array.getD_eq_getD_getElem?, Array.getD_eq_getD_getElem?, Array.getElem?_setIfInBounds_ne (Ne.symm hj)]
    rw [this]; exact h.2 j

def putV (a : Array Value) (d : Option Tmp) (v : Value) : Array Value := match d with
  | some d => a.setIfInBounds d v
  | none => a
theorem TRel.put {φ : Phi} {n : Nat} {t : Tm} {a : Array Value} (h : TRel φ n t a) {d : Option Tmp} {v : AV} {v' : Value} (hi : dstOk n d = true) (hv : VRel φ v v') :
    TRel φ n (Ae.put t d v) (putV a d v') := by
  cases d with
  | none => exact h
  | some d => exact h.upd (blt_lt hi) hv

theorem VRel.undef {φ : Phi} : VRel φ .undef undef := .tuple .nil

theorem ofArgs_get : ∀ (l : List AV) (i : Nat) (t : Tm) (j : Nat), Tm.get (ofArgs l i t) j = if i ≤ j ∧ j < i + l.length then (l[j - i]?).getD .undef else Tm.get t j
  | [], i, t, j => by simp only [ofArgs, List.length_nil, Nat.add_zero]; rw [if_neg (by omega)]
  | a :: l, i, t, j => by
    simp only [ofArgs, List.length_cons]
    rw [ofArgs_get l (Nat.succ i)]
    by_cases h1 : j = i
    · subst h1
      rw [if_neg (by simp only [Nat.succ_eq_add_one]; omega), if_pos (by omega)]
      simp only [Nat.sub_self, List.getElem?_cons_zero, Option.getD_some]
      unfold Ae.upd Tm.get
      rw [T.get_set, if_pos rfl]
    · by_cases h2 : i + 1 ≤ j ∧ j < i + 1 + l.length
      · rw [if_pos (by simp only [Nat.succ_eq_add_one]; exact h2), if_pos (by omega)]
        rw [show j - i = (j - (i + 1)) + 1 by omega]
        simp
      · rw [if_neg (by simp only [Nat.succ_eq_add_one]; exact h2), if_neg (by omega)]
        unfold Ae.upd Tm.get
        rw [T.get_set, if_neg h1]

theorem TRel.init {φ : Phi} {n : Nat} {args : List AV} {args' : Array Value} (h : VRels φ args args'.toList) (hn : args.length ≤ n) :
    TRel φ n (ofArgs args 0 .nil) (args' ++ Array.replicate (n - args'.size) Go.undef) := by
  have hl := h.length
  simp only [Array.length_toList] at hl
  refine ⟨by simp; omega, fun j => ?_⟩
  rw [ofArgs_get, Array.getD_eq_getD_getElem?]
  by_cases hj : j < args.length
  · rw [if_pos (by omega), Nat.sub_zero, Array.getElem?_append_left (by omega)]
    obtain ⟨y, e1, e2⟩ := h.get j args[j] (by simp)
    rw [List.getElem?_eq_getElem hj]
    simp only [Array.getElem?_toList] at e1
    rw [e1]
    exact e2
  · rw [if_neg (by omega)]
    have h0 : Tm.get .nil j = .undef := rfl
    rw [h0, Array.getElem?_append_right (by omega)]
    have : ((Array.replicate (n - args'.size) Go.undef)[j - args'.size]?).getD Go.undef = Go.undef := by
      rw [Array.getElem?_replicate]; split <;> rfl
    rw [this]
    exact VRel.undef

inductive IRel (φ : Phi) : AItem → Item → Prop
  | code (c : Code) : IRel φ (.code c) (.code c)
  | inBlock (id : Nat) : IRel φ (.inBlock id) (.inBlock id)
  | inLoop (b : Code) : IRel φ (.inLoop b) (.inLoop b)
  | inScope (b : Code) : IRel φ (.inScope b) (.inScope b)
  | inReg {ops : Array Oper} {l : List (Nat × Oper)} {is : List Nat} (h : AllRel (fun p i => p.1 = i ∧ ops[i]? = some p.2) l is) : IRel φ (.inReg ops l) (.inRegion ops is)
  | inRangeFunc {b R : Nat} (h : φ b = some (R, 0, 0)) : IRel φ (.inRangeFunc b) (.inRangeFunc R)
  | endRangeFunc {b R : Nat} (h : φ b = some (R, 0, 0)) : IRel φ (.endRangeFunc b) (.endRangeFunc R)
  | beginRound : IRel φ .beginRound .beginRound
theorem IRel.mono {φ ψ : Phi} (hle : φ.le ψ) {x : AItem} {y : Item} (h : IRel φ x y) : IRel ψ x y := by
  cases h with
  | code c => exact .code c
  | inBlock id => exact .inBlock id
  | inLoop b => exact .inLoop b
  | inScope b => exact .inScope b
  | inReg h => exact .inReg h
  | inRangeFunc h => exact .inRangeFunc (hle _ _ h)
  | endRangeFunc h => exact .endRangeFunc (hle _ _ h)
  | beginRound => exact .beginRound

inductive DRel (φ : Phi) : ADef → Deferred → Prop
  | call {f : FuncId} {cap args : List AV} {cap' args' : Array Value} (hc : VRels φ cap cap'.toList) (ha : VRels φ args args'.toList) : DRel φ (.call f cap args) { target := .fn (.func f) cap', args := args' }
  | collected {b R : Nat} (h : φ b = some (R, 0, 0)) : DRel φ (.collected b) { target := .collected R, args := #[] }
theorem DRel.mono {φ ψ : Phi} (hle : φ.le ψ) {x : ADef} {y : Deferred} (h : DRel φ x y) : DRel ψ x y := by
  cases h with
  | call hc ha => exact .call (hc.mono hle) (ha.mono hle)
  | collected h => exact .collected (hle _ _ h)

inductive PERel (φ : Phi) : APE → PanicEntry → Prop
  | mk {v : AV} {v' : Value} {r : Bool} (h : VRel φ v v') : PERel φ ⟨v, r⟩ { v := v', recovered := r, goexit := false }
theorem PERel.mono {φ ψ : Phi} (hle : φ.le ψ) {x : APE} {y : PanicEntry} (h : PERel φ x y) : PERel ψ x y := by
  cases h with
  | mk h => exact .mk (h.mono hle)

inductive MRel (φ : Phi) : AMode → FrameMode → Prop
  | run : MRel φ .run .run
  | returning : MRel φ .returning .returning
  | panicking {c : List APE} {c' : List PanicEntry} (h : AllRel (PERel φ) c c') : MRel φ (.panicking c) (.panicking c')
theorem MRel.mono {φ ψ : Phi} (hle : φ.le ψ) {x : AMode} {y : FrameMode} (h : MRel φ x y) : MRel ψ x y := by
  cases h with
  | run => exact .run
  | returning => exact .returning
  | panicking h => exact .panicking (h.mono fun _ _ r => PERel.mono hle r)

/-- what recover would answer -/
inductive RRel (φ : Phi) (fr' : Frame) : ARcv → List Frame → Prop
  | none {cs : List Frame} (h : tryRecover fr' cs = none) : RRel φ fr' .none cs
  | avail {v : AV} {v' : Value} {c : Frame} {cs : List Frame} (hk : fr'.kind = .deferred) (hm : c.mode = .panicking [{ v := v', recovered := false, goexit := false }]) (hv : VRel φ v v') : RRel φ fr' (.avail v) (c :: cs)
  | taken {v' : Value} {c : Frame} {cs : List Frame} (hk : fr'.kind = .deferred) (hm : c.mode = .panicking [{ v := v', recovered := true, goexit := false }]) : RRel φ fr' .taken (c :: cs)

def RoRel (φ : Phi) : Option Nat → Option Nat → Prop
  | none, none => True
  | some b, some R => φ b = some (R, 0, 0)
  | _, _ => False

def kindOf (hd : Hd) : CallKind := if hd.deferred then .deferred else .normal

structure FRel (P : Program) (φ : Phi) (fr : AF) (fr' : Frame) (cs : List Frame) : Prop where
  fn : fr'.fn = fr.hd.fn
  tmps : TRel φ fr.hd.n fr.tmps fr'.tmps
  todo : fr.mode = .run → AllRel (IRel φ) fr.todo fr'.todo
  defers : AllRel (DRel φ) fr.st.defers fr'.defers
  mode : MRel φ fr.mode fr'.mode
  kind : fr'.kind = kindOf fr.hd
  round : RoRel φ fr.hd.roundOf fr'.roundOf
  rcv : RRel φ fr' fr.st.rcv cs
  known : fr.hd.roundOf = none → ∃ fn, P.funcs[fr.hd.fn]? = some fn
  plain : fr.hd.roundOf ≠ none → fr.hd.deferred = false

theorem RoRel.mono {φ ψ : Phi} (hle : φ.le ψ) {x y : Option Nat} (h : RoRel φ x y) : RoRel ψ x y := by
  cases x <;> cases y <;> first | trivial | exact h.elim | exact hle _ _ h
theorem RRel.mono {φ ψ : Phi} (hle : φ.le ψ) {fr' : Frame} {r : ARcv} {cs : List Frame} (h : RRel φ fr' r cs) : RRel ψ fr' r cs := by
  cases h with
  | none h => exact .none h
  | avail hk hm hv => exact .avail hk hm (hv.mono hle)
  | taken hk hm => exact .taken hk hm
theorem FRel.mono {P : Program} {φ ψ : Phi} (hle : φ.le ψ) {fr : AF} {fr' : Frame} {cs : List Frame} (h : FRel P φ fr fr' cs) : FRel P ψ fr fr' cs :=
  ⟨h.fn, h.tmps.mono hle, fun hm => (h.todo hm).mono fun _ _ r => IRel.mono hle r, h.defers.mono fun _ _ r => DRel.mono hle r, h.mode.mono hle, h.kind, h.round.mono hle, h.rcv.mono hle, h.known, h.plain⟩

theorem tryRecover_kind {fr fr' : Frame} (h : fr'.kind = fr.kind) (hw : fr.kind = .normal ∨ fr.kind = .deferred) (cs : List Frame) : tryRecover fr' cs = tryRecover fr cs := by
  unfold tryRecover
  rcases hw with hw | hw <;> rw [h, hw]
theorem RRel.kind {φ : Phi} {fr fr' : Frame} {r : ARcv} {cs : List Frame} (h : RRel φ fr r cs) (hk : fr'.kind = fr.kind) (hw : fr.kind = .normal ∨ fr.kind = .deferred) : RRel φ fr' r cs := by
  cases h with
  | none h => exact .none (by rw [tryRecover_kind hk hw]; exact h)
  | avail h1 hm hv => exact .avail (by rw [hk]; exact h1) hm hv
  | taken h1 hm => exact .taken (by rw [hk]; exact h1) hm
theorem kindOf_or (hd : Hd) : kindOf hd = .normal ∨ kindOf hd = .deferred := by unfold kindOf; split <;> simp

theorem exitTo_ok {φ : Phi} {id : Nat} : ∀ {k : List AItem} {k' : List Item} {r : Option (List AItem)}, AllRel (IRel φ) k k' → exitToA id k = r → 
    (match r with | some r => ∃ r', exitTo id k' = some r' ∧ AllRel (IRel φ) r r' | none => exitTo id k' = none)
  | _, _, _, .nil, h => by subst h; rfl
  | it :: k, it' :: k', r, .cons ih t, h => by
    have rec_ := fun (r : Option (List AItem)) (h : exitToA id k = r) => exitTo_ok (k := k) (k' := k') (r := r) t h
    cases ih <;> simp only [exitToA] at h <;> try (exact rec_ r h)
    rename_i id'
    cases hb : Nat.beq id' id with
    | true =>
      rw [hb] at h
      simp only [cond_true] at h
      subst h
      have := Nat.eq_of_beq_eq_true hb
      exact ⟨k', by simp [exitTo, this], t⟩
    | false =>
      rw [hb] at h
      simp only [cond_false] at h
      have hne : (id' == id) = false := by have := Nat.ne_of_beq_eq_false hb; simpa using this
      have hst : exitTo id (Item.inBlock id' :: k') = exitTo id k' := by simp [exitTo, hne]
      rw [hst]
      exact rec_ r h

theorem gotoIn_ok {φ : Phi} {l : Nat} : ∀ {k : List AItem} {k' : List Item} {r : Option (List AItem)}, AllRel (IRel φ) k k' → gotoInA l k = r →
    (match r with | some r => ∃ r', gotoIn l k' = some r' ∧ AllRel (IRel φ) r r' | none => gotoIn l k' = none)
  | _, _, _, .nil, h => by subst h; rfl
  | it :: k, it' :: k', r, .cons ih t, h => by
    have rec_ := fun (r : Option (List AItem)) (h : gotoInA l k = r) => gotoIn_ok (k := k) (k' := k') (r := r) t h
    cases ih <;> simp only [gotoInA] at h <;> try (exact rec_ r h)
    rename_i b
    cases hf : findLabel b l with
    | some rest =>
      rw [hf] at h
      subst h
      exact ⟨_, by simp only [gotoIn, hf], .cons (.code _) (.cons (.inScope _) t)⟩
    | none =>
      rw [hf] at h
      have hst : gotoIn l (Item.inScope b :: k') = gotoIn l k' := by simp only [gotoIn, hf]
      rw [hst]
      exact rec_ r h

end Go.Ae

/- Steps of control, at both. -/
namespace Go.Ae
open Go

/-- the frames below, as a frame has left them -/
inductive Took : ARcv → ARcv → List Frame → List Frame → Prop
  | same (r : ARcv) (cs : List Frame) : Took r r cs cs
  | took {v : AV} {v' : Value} {c : Frame} {cs : List Frame} (hm : c.mode = .panicking [{ v := v', recovered := false, goexit := false }]) :
      Took (.avail v) .taken (c :: cs) ({ c with mode := .panicking [{ v := v', recovered := true, goexit := false }] } :: cs)
theorem Took.trans {a b c : ARcv} {x y z : List Frame} (h : Took a b x y) (h' : Took b c y z) : Took a c x z := by
  cases h with
  | same => exact h'
  | took hm => cases h' with
    | same => exact .took hm

def isTaken : ARcv → Bool
  | .taken => true
  | _ => false

/-- how a frame ends, at both -/
def Out (P : Program) (φ' : Phi) (hd : Hd) (rcv : ARcv) (cs : List Frame) (m : Machine) (w' : World) : Fin → Prop
  | .ret v taken => match hd.roundOf with
    | none => ∃ frE v' rcvE cs', VRel φ' v v' ∧ Took rcv rcvE cs cs' ∧ taken = isTaken rcvE ∧ Steps P m (lone frE cs' w') ∧ frE.fn = hd.fn ∧ frE.mode = .returning ∧ frE.defers = [] ∧ frE.kind = kindOf hd ∧
        ∃ fn, P.funcs[frE.fn]? = some fn ∧ (results fn frE.tmps).run P w' = .ok v' w'
    | some _ => taken = false ∧ ∃ v', VRel φ' v v' ∧ ∀ c rest, cs = c :: rest → Steps P m (lone (c.finish v') rest w')
  | .panic chain => hd.roundOf = none ∧ hd.deferred = false ∧ ∃ frE chain', AllRel (PERel φ') chain chain' ∧ Steps P m (lone frE cs w') ∧ frE.fn = hd.fn ∧ frE.mode = .panicking chain' ∧ frE.defers = [] ∧ ∃ fn, P.funcs[frE.fn]? = some fn

/-- how a frame calls -/
inductive CallOk (cal fr1 : AF) : Prop
  | norm (h1 : fr1.mode = .run) (h2 : cal.hd.deferred = false) (h3 : cal.st.rcv = .none)
  | dret (h1 : fr1.mode = .returning) (h2 : cal.hd.deferred = true) (h3 : cal.st.rcv = .none) (h4 : cal.hd.roundOf = none)
  | dpan {v : AV} (h1 : fr1.mode = .panicking [⟨v, false⟩]) (h2 : cal.hd.deferred = true) (h3 : cal.st.rcv = .avail v) (h4 : cal.hd.roundOf = none)

/-- a step, at both -/
def GoOk (P : Program) (φ : Phi) (lo : Nat) (A : AW) (w : World) (rcv : ARcv) (hd : Hd) (cs : List Frame) (m : Machine) (fr1 : AF) (A1 : AW) : Prop :=
  ∃ φ1 fr1' cs1 w1, Steps P m (lone fr1' cs1 w1) ∧ FRel P φ1 fr1 fr1' cs1 ∧ HRel φ1 A1 w1.heap ∧ Goes lo φ A w φ1 A1 w1 ∧ Took rcv fr1.st.rcv cs cs1 ∧ fr1.hd = hd ∧ fr1.st.hist = []

def StepOk (P : Program) (φ : Phi) (lo : Nat) (A : AW) (w : World) (rcv : ARcv) (hd : Hd) (cs : List Frame) (m : Machine) : Stp → Prop
  | .go fr1 A1 => GoOk P φ lo A w rcv hd cs m fr1 A1
  | .call cal fr1 A1 => ∃ φ1 cal' fr1' w1, Steps P m (lone cal' (fr1' :: cs) w1) ∧ FRel P φ1 cal cal' (fr1' :: cs) ∧ FRel P φ1 fr1 fr1' cs ∧ HRel φ1 A1 w1.heap ∧ Goes lo φ A w φ1 A1 w1 ∧ fr1.st.rcv = rcv ∧ fr1.hd = hd ∧ cal.st.hist = [] ∧ fr1.st.hist = [] ∧ CallOk cal fr1
  | .pick n k => ∃ i, i < n ∧ GoOk P φ lo A w rcv hd cs m (k i).1 (k i).2
  | .fin r A1 => ∃ φ1 w1, Out P φ1 hd rcv cs m w1 r ∧ HRel φ1 A1 w1.heap ∧ Goes lo φ A w φ1 A1 w1
  | .bad => True

section
variable {P : Program} {φ : Phi} {lo : Nat} {A : AW} {w : World} {cs : List Frame}

/-- a step that changes the frame alone -/
theorem go_here {fr fr1 : AF} {fr' fr1' : Frame} (hs : step P (lone fr' cs w) = .next (lone fr1' cs w)) (h : FRel P φ fr1 fr1' cs) (H : HRel φ A w.heap) (hr : fr1.st.rcv = fr.st.rcv) (hh : fr1.hd = fr.hd) (hz : fr1.st.hist = []) :
    GoOk P φ lo A w fr.st.rcv fr.hd cs (lone fr' cs w) fr1 A :=
  ⟨φ, fr1', cs, w, .one hs, h, H, Goes.refl _ _ _ _, by rw [hr]; exact .same _ _, hh, hz⟩

theorem frel_todo {hd : Hd} {tmps : Tm} {todo todo1 : List AItem} {st st1 : St} {fr' : Frame} {k' : List Item} (h : FRel P φ ⟨hd, tmps, todo, st, .run⟩ fr' cs) (ht : AllRel (IRel φ) todo1 k') (hd1 : st1.defers = st.defers) (hr1 : st1.rcv = st.rcv) :
    FRel P φ ⟨hd, tmps, todo1, st1, .run⟩ { fr' with todo := k' } cs := by
  have hk : fr'.kind = .normal ∨ fr'.kind = .deferred := by rw [h.kind]; exact kindOf_or _
  exact ⟨h.fn, h.tmps, fun _ => ht, by rw [hd1]; exact h.defers, h.mode, h.kind, h.round, by rw [hr1]; exact h.rcv.kind rfl hk, h.known, h.plain⟩

theorem mode_run {fr : AF} {fr' : Frame} (h : FRel P φ fr fr' cs) (hm : fr.mode = .run) : fr'.mode = .run := by
  have := h.mode
  rw [hm] at this
  generalize fr'.mode = q at this
  cases this; rfl

/-- a frame leaves, in the model -/
def leaveG (P : Program) (fr' : Frame) (cs : List Frame) (jump : Option Code) (w : World) : GStep :=
  match fr'.roundOf with
  | none => match jump with
    | none => .go { frame := { fr' with mode := .returning }, callers := cs, status := .running, dying := none } w
    | some .ret => .go { frame := { fr' with mode := .returning }, callers := cs, status := .running, dying := none } w
    | some _ => .ended (.stuck "exit, goto: no such block or label" (fr'.pos P)) w
  | some l =>
    let (r, es) := (Instr.endRound l jump).runT P w #[]
    GStep.after (seen P fr'.fn es) <| match r with
    | .ok v w => doReturn P true fr' cs none v w
    | .halt _ w => .ended (.stuck "range over a function: no such loop" (fr'.pos P)) w

theorem leave_ok {hd : Hd} {tmps : Tm} {todo todo1 : List AItem} {st : St} {fr' : Frame} {jump : Option Code} (h : FRel P φ ⟨hd, tmps, todo, st, .run⟩ fr' cs) (H : HRel φ A w.heap) (hz : st.hist = [])
    (hs : Go.stepG P true { frame := fr', callers := cs, status := .running, dying := none } w = leaveG P fr' cs jump w) :
    StepOk P φ A.next A w st.rcv hd cs (lone fr' cs w) (leaveA hd tmps todo1 st A jump) := by
  have hk : fr'.kind = .normal ∨ fr'.kind = .deferred := by rw [h.kind]; exact kindOf_or _
  unfold leaveA
  cases hro : hd.roundOf with
  | none =>
    have hr' : fr'.roundOf = none := by
      have := h.round; simp only [hro] at this
      cases hq : fr'.roundOf with
      | none => rfl
      | some _ => rw [hq] at this; exact this.elim
    have key : (jump = none ∨ jump = some .ret) → step P (lone fr' cs w) = .next (lone { fr' with mode := .returning } cs w) := by
      intro hj
      refine step_lone_go ?_
      rw [hs]; unfold leaveG; rw [hr']
      rcases hj with rfl | rfl <;> simp
    have frel : FRel P φ ⟨hd, tmps, todo1, st, .returning⟩ { fr' with mode := .returning } cs :=
      ⟨h.fn, h.tmps, fun hm => (by cases hm), h.defers, .returning, h.kind, h.round, h.rcv.kind rfl hk, h.known, h.plain⟩
    cases jump with
    | none => exact go_here (fr := ⟨hd, tmps, todo, st, .run⟩) (key (.inl rfl)) frel H rfl rfl hz
    | some c => cases c <;> first
      | exact go_here (fr := ⟨hd, tmps, todo, st, .run⟩) (key (.inr rfl)) frel H rfl rfl hz
      | trivial
  | some l =>
    simp only []
    split
    · rename_i r hA hdef
      have hro' := h.round
      simp only [hro] at hro'
      cases hq : fr'.roundOf with
      | none => rw [hq] at hro'; exact hro'.elim
      | some R =>
        rw [hq] at hro'
        have hφ : φ l = some (R, 0, 0) := hro'
        obtain ⟨R', s', l', obj, e1, e2, e3⟩ := H.con l _ hA
        rw [hφ] at e1
        cases e1
        cases e3 with
        | loop h1 h2 h3 h4 h5 h6 h7 h8 =>
          rename_i r'
          obtain ⟨s1, s2⟩ := H.setObj (lo := A.next) (o' := .loop { r with state := if jump.isNone then .ready else .done, pending := jump }) (obj' := .loop { r' with state := if jump.isNone then .ready else .done, pending := jump }) hφ hA rfl rfl rfl
            (.loop rfl rfl h3 h4 h5 h6 h7 h8)
          refine ⟨φ, { w with heap := w.heap.setIfInBounds R (.loop { r' with state := if jump.isNone then .ready else .done, pending := jump }) }, ?_, s1, s2⟩
          simp only [Out, hro]
          refine ⟨trivial, .bool jump.isNone, .bool _, fun c rest hcs => .one (step_lone_go ?_)⟩
          have hrun : (Instr.endRound R jump).run P w = .ok (.bool jump.isNone) { w with heap := w.heap.setIfInBounds R (.loop { r' with state := if jump.isNone then .ready else .done, pending := jump }) } := by
            simp only [Instr.endRound, Instr.getLoop, Sem.run_bind, run_getObj e2 (by simp), Result.andThen_ok, Sem.run_pure, run_setObj e2 (by simp)]
          have hkd : fr'.kind = .normal := by rw [h.kind, kindOf, h.plain (by rw [hro]; simp)]; rfl
          rw [hs]; unfold leaveG; rw [hq]
          simp only [Sem.runT_eq, hrun, GStep.bare_after, doReturn, hcs, hkd]
          rfl
    · trivial

end
end Go.Ae

/- Steps of control, at both (2). -/
namespace Go.Ae
open Go
section
variable {P : Program} {φ : Phi} {A : AW} {w : World} {cs : List Frame}

theorem FRel.eval {fr : AF} {fr' : Frame} (h : FRel P φ fr fr' cs) (hG : GlobOk P φ) : Env P φ fr.tmps fr'.eval :=
  opd_ok hG h.tmps (fun _ => rfl) (fun _ => rfl) (fun _ => rfl) (fun _ => rfl)

theorem todo_cons {it : AItem} {k : List AItem} {l : List Item} (h : AllRel (IRel φ) (it :: k) l) : ∃ it' k', l = it' :: k' ∧ IRel φ it it' ∧ AllRel (IRel φ) k k' := by
  cases h with
  | cons h t => exact ⟨_, _, rfl, h, t⟩

theorem inOrder_go (ops : Array Oper) : ∀ (l : List Oper) (i : Nat), (∀ j o, l[j]? = some o → ops[i + j]? = some o) → AllRel (fun p i => p.1 = i ∧ ops[i]? = some p.2) (inOrder.go l i) (List.range' i l.length)
  | [], i, h => .nil
  | o :: l, i, h => by
    simp only [inOrder.go, List.length_cons, List.range'_succ]
    refine .cons ⟨rfl, by simpa using h 0 o rfl⟩ ?_
    exact inOrder_go ops l (i + 1) (fun j o hj => by have := h (j + 1) o (by simpa using hj); rwa [show i + (j + 1) = i + 1 + j by omega] at this)
theorem inOrder_ok (ops : Array Oper) : AllRel (fun p i => p.1 = i ∧ ops[i]? = some p.2) (inOrder ops) (List.range ops.size) := by
  have := inOrder_go ops ops.toList 0 (fun j o h => by simpa using h)
  rw [Array.length_toList] at this
  rw [List.range_eq_range']
  exact this

/-- a step of code that is no region that draws and no range over a function -/
theorem stepCode_ok {hd : Hd} {tmps : Tm} {k : List AItem} {st : St} {fr' : Frame} {c : Code} (h : FRel P φ ⟨hd, tmps, .code c :: k, st, .run⟩ fr' cs) (H : HRel φ A w.heap) (hG : GlobOk P φ) (hz : st.hist = [])
    (h1 : ∀ id ops, c ≠ .region id ops true) (h2 : ∀ f ps a b, c ≠ .rangeFunc f ps a b) :
    StepOk P φ A.next A w st.rcv hd cs (lone fr' cs w) (stepCode P hd tmps k st A c) := by
  have hm := mode_run h rfl
  obtain ⟨it', k', ht, hi, hk⟩ := todo_cons (h.todo rfl)
  cases hi
  have here : ∀ {todo1 : List AItem} {k1 : List Item} {st1 : St}, step P (lone fr' cs w) = .next (lone { fr' with todo := k1 } cs w) → AllRel (IRel φ) todo1 k1 → st1.defers = st.defers → st1.rcv = st.rcv ∧ st1.hist = [] →
      StepOk P φ A.next A w st.rcv hd cs (lone fr' cs w) (.go ⟨hd, tmps, todo1, st1, .run⟩ A) := fun hs ht1 hd1 hr1 =>
    go_here (fr := ⟨hd, tmps, .code c :: k, st, .run⟩) hs (frel_todo h ht1 hd1 hr1.1) H hr1.1 rfl hr1.2
  have hleave : ∀ jump, Go.stepG P true { frame := fr', callers := cs, status := .running, dying := none } w = leaveG P fr' cs jump w → StepOk P φ A.next A w st.rcv hd cs (lone fr' cs w) (leaveA hd tmps k st A jump) := by
    intro jump hs
    exact leave_ok h H hz hs
  cases c with
  | skip => exact here (step_lone_go (by simp [Go.stepG, Go.stepG.exec, hm, ht])) hk rfl ⟨rfl, hz⟩
  | region id ops draw =>
    cases draw with
    | true => exact absurd rfl (h1 id ops)
    | false => exact here (step_lone_go (by simp [Go.stepG, Go.stepG.exec, hm, ht])) (.cons (.inReg (inOrder_ok ops)) hk) rfl ⟨rfl, hz⟩
  | seq a b => exact here (step_lone_go (by simp [Go.stepG, Go.stepG.exec, hm, ht])) (.cons (.code a) (.cons (.code b) hk)) rfl ⟨rfl, hz⟩
  | cond c a b =>
    simp only [stepCode]
    split
    · rename_i t hc
      have hE := h.eval hG c
      rw [hc] at hE
      have hv : fr'.eval c = .bool t := by generalize fr'.eval c = v at hE; cases hE; rfl
      refine here (step_lone_go ?_) (.cons (.code _) hk) rfl ⟨rfl, hz⟩
      simp [Go.stepG, Go.stepG.exec, hm, ht, hv]
    · trivial
  | block id body => exact here (step_lone_go (by simp [Go.stepG, Go.stepG.exec, hm, ht])) (.cons (.code _) (.cons (.inBlock _) hk)) rfl ⟨rfl, hz⟩
  | loop body => exact here (step_lone_go (by simp [Go.stepG, Go.stepG.exec, hm, ht])) (.cons (.code _) (.cons (.inLoop _) hk)) rfl ⟨rfl, hz⟩
  | rangeFunc f ps a b => exact absurd rfl (h2 f ps a b)
  | exit id =>
    simp only [stepCode]
    split
    · rename_i r hr
      obtain ⟨r', e1, e2⟩ := exitTo_ok hk hr
      exact here (step_lone_go (by simp [Go.stepG, Go.stepG.exec, hm, ht, e1])) e2 rfl ⟨rfl, hz⟩
    · rename_i hr
      have e1 := exitTo_ok hk hr
      refine hleave _ ?_
      simp [Go.stepG, Go.stepG.exec, hm, ht, e1, leaveG]
      cases fr'.roundOf <;> rfl
  | scope body => exact here (step_lone_go (by simp [Go.stepG, Go.stepG.exec, hm, ht])) (.cons (.code _) (.cons (.inScope _) hk)) rfl ⟨rfl, hz⟩
  | label l => exact here (step_lone_go (by simp [Go.stepG, Go.stepG.exec, hm, ht])) hk rfl ⟨rfl, hz⟩
  | goto l =>
    simp only [stepCode]
    split
    · rename_i r hr
      obtain ⟨r', e1, e2⟩ := gotoIn_ok hk hr
      exact here (step_lone_go (by simp [Go.stepG, Go.stepG.exec, hm, ht, e1])) e2 rfl ⟨rfl, hz⟩
    · rename_i hr
      have e1 := gotoIn_ok hk hr
      refine hleave _ ?_
      simp [Go.stepG, Go.stepG.exec, hm, ht, e1, leaveG]
      cases fr'.roundOf <;> rfl
  | ret =>
    simp only [stepCode]
    refine hleave _ ?_
    simp [Go.stepG, Go.stepG.exec, hm, ht, leaveG]
    cases fr'.roundOf <;> rfl
  | refuse why => trivial

end
end Go.Ae

/- Calls entered; ranges over functions. -/
namespace Go.Ae
open Go

/-- no function of the program asks for the number of goroutines -/
def NoNum (P : Program) : Prop := ∀ (f : FuncId) (fn : Func), P.funcs[f]? = some fn → (fn.name == "runtime.NumGoroutine") = false

section
variable {P : Program} {φ : Phi} {A : AW} {w : World} {cs : List Frame}

theorem run_callFunc (hN : NoNum P) {f : FuncId} {fn : Func} {c : Code} (hf : P.funcs[f]? = some fn) (hb : fn.body = some c) (args : Array Value) (w : World) : (callFunc f args).run P w = .ok (.enter f args) w := by
  simp only [callFunc, Sem.run_bind, run_prog, Result.andThen_ok, hf, hN f fn hf, Bool.false_eq_true, if_false, hb, Option.isNone_some, Sem.run_pure]

theorem enterC_ok {f : FuncId} {fn : Func} {c : Code} (hf : P.funcs[f]? = some fn) (hb : fn.body = some c) {args : List AV} {args' : Array Value} (ha : VRels φ args args'.toList) (hn : args.length ≤ fn.ntmps) {df : Bool} {rcv : ARcv}
    (hr : RRel φ (Frame.enter P f args' (if df then .deferred else .normal)) rcv cs) : FRel P φ (enterC f fn.ntmps c args df rcv) (Frame.enter P f args' (if df then .deferred else .normal)) cs := by
  refine ⟨rfl, ?_, fun _ => ?_, .nil, .run, rfl, trivial, hr, fun _ => ⟨fn, hf⟩, fun h => absurd rfl h⟩
  · have := TRel.init ha hn
    have e : (Frame.enter P f args' (if df then .deferred else .normal)).tmps = args' ++ Array.replicate (fn.ntmps - args'.size) Go.undef := by simp [Frame.enter, hf]
    show TRel φ fn.ntmps (ofArgs args 0 .nil) _
    rw [e]
    exact this
  · have : (Frame.enter P f args' (if df then .deferred else .normal)).todo = [.code c] := by simp [Frame.enter, hf, hb]
    rw [this]
    exact .cons (.code c) .nil

theorem enterA_ok {f : FuncId} {args : List AV} {df : Bool} {rcv : ARcv} {cal : AF} (h : enterA P f args df rcv = some cal) : ∃ fn c, P.funcs[f]? = some fn ∧ fn.body = some c ∧ args.length ≤ fn.ntmps ∧ cal = enterC f fn.ntmps c args df rcv := by
  unfold enterA at h
  split at h
  · rename_i fn hf
    split at h
    · rename_i c hb
      cases hn : Nat.ble args.length fn.ntmps with
      | false => rw [hn] at h; cases h
      | true =>
        rw [hn] at h
        simp only [cond_true, Option.some.injEq] at h
        exact ⟨fn, c, hf, hb, Nat.le_of_ble_eq_true hn, h.symm⟩
    · cases h
  · cases h

theorem rrel_normal {fr' : Frame} (hk : fr'.kind = .normal) (cs : List Frame) : RRel φ fr' .none cs := by
  refine .none ?_
  unfold tryRecover
  rw [hk]

theorem HRel.loop {h : Array Obj} (H : HRel φ A h) {l R : Nat} {r : ALoop} (hφ : φ l = some (R, 0, 0)) (hA : A.get l = some (.loop r)) :
    ∃ r', h[R]? = some (.loop r') ∧ r'.state = r.state ∧ r'.pending = r.pending ∧ r'.fn = r.fn ∧ TRel φ r.n r.tmps r'.tmps ∧ r'.params = r.params ∧ r'.assign = r.assign ∧ r'.body = r.body ∧ φ r.defers = some (r'.defers, 0, 0) := by
  obtain ⟨R', s', l', obj, e1, e2, e3⟩ := H.con l _ hA
  rw [hφ] at e1
  cases e1
  cases e3 with
  | loop h1 h2 h3 h4 h5 h6 h7 h8 => exact ⟨_, e2, h1, h2, h3, h4, h5, h6, h7, h8⟩

theorem beginA_ok {hd : Hd} {tmps : Tm} {k : List AItem} {st : St} {fr' : Frame} (h : FRel P φ ⟨hd, tmps, .beginRound :: k, st, .run⟩ fr' cs) (H : HRel φ A w.heap) (hz : st.hist = []) :
    StepOk P φ A.next A w st.rcv hd cs (lone fr' cs w) (beginA hd tmps k st A) := by
  have hm := mode_run h rfl
  obtain ⟨it', k', ht, hi, hk⟩ := todo_cons (h.todo rfl)
  cases hi
  unfold beginA
  split
  · rename_i l hro
    split
    · rename_i r hA
      split
      · rename_i hst
        have hro' := h.round
        simp only [hro] at hro'
        cases hq : fr'.roundOf with
        | none => rw [hq] at hro'; exact hro'.elim
        | some R =>
          rw [hq] at hro'
          have hφ : φ l = some (R, 0, 0) := hro'
          obtain ⟨r', e2, h1, h2, h3, h4, h5, h6, h7, h8⟩ := H.loop hφ hA
          obtain ⟨s1, s2⟩ := H.setObj (lo := A.next) (o' := .loop { r with state := .busy }) (obj' := .loop { r' with state := .busy }) hφ hA rfl rfl rfl (.loop rfl h2 h3 h4 h5 h6 h7 h8)
          have hrun : (Instr.beginRound R).run P w = .ok () { w with heap := w.heap.setIfInBounds R (.loop { r' with state := .busy }) } := by
            simp only [Instr.beginRound, Instr.getLoop, Sem.run_bind, run_getObj e2 (by simp), Result.andThen_ok, Sem.run_pure, run_setObj e2 (by simp), h1, hst]
          refine ⟨φ, { fr' with todo := k' }, cs, { w with heap := w.heap.setIfInBounds R (.loop { r' with state := .busy }) }, .one (step_lone_go ?_), frel_todo h hk rfl rfl, s1, s2, .same _ _, rfl, hz⟩
          simp [Go.stepG, Go.stepG.exec, hm, ht, hq, Go.stepG.apply, hrun, Frame.finish]
      · trivial
    · trivial
  · trivial

theorem endLoopA_ok {hd : Hd} {tmps : Tm} {k : List AItem} {st : St} {fr' : Frame} {l : Nat} (h : FRel P φ ⟨hd, tmps, .endRangeFunc l :: k, st, .run⟩ fr' cs) (H : HRel φ A w.heap) (hz : st.hist = []) :
    StepOk P φ A.next A w st.rcv hd cs (lone fr' cs w) (endLoopA hd tmps k st A l) := by
  have hm := mode_run h rfl
  obtain ⟨it', k', ht, hi, hk⟩ := todo_cons (h.todo rfl)
  cases hi
  rename_i R hφ
  unfold endLoopA
  split
  · rename_i r hA
    obtain ⟨r', e2, h1, h2, h3, h4, h5, h6, h7, h8⟩ := H.loop hφ hA
    obtain ⟨s1, s2⟩ := H.setObj (lo := A.next) (o' := .loop { r with state := .exhausted }) (obj' := .loop { r' with state := .exhausted }) hφ hA rfl rfl rfl (.loop rfl h2 h3 h4 h5 h6 h7 h8)
    split
    · trivial
    · rename_i hst
      have hne : (r'.state == LoopState.busy) = false := by rw [h1]; cases hs : r.state <;> first | rfl | exact absurd hs hst
      have hrun : (Instr.endLoop R).run P w = .ok r.pending { w with heap := w.heap.setIfInBounds R (.loop { r' with state := .exhausted }) } := by
        simp only [Instr.endLoop, Instr.getLoop, Sem.run_bind, run_getObj e2 (by simp), Result.andThen_ok, Sem.run_pure, hne, Bool.false_eq_true, if_false, run_setObj e2 (by simp), h2]
      refine ⟨φ, { fr' with todo := (r.pending.map Item.code).toList ++ k' }, cs, { w with heap := w.heap.setIfInBounds R (.loop { r' with state := .exhausted }) }, .one (step_lone_go ?_), frel_todo h ?_ rfl rfl, s1, s2, .same _ _, rfl, hz⟩
      · simp [Go.stepG, Go.stepG.exec, hm, ht, hrun]
      · cases r.pending with
        | none => exact hk
        | some c => exact .cons (.code c) hk
  · trivial

/-- what the model's step makes of an operation's end -/
theorem apply_value {fr : Frame} {s : Sem Next} {w' : World} {v : Value} (h : s.run P w = .ok (.value v) w') :
    (Go.stepG.apply P true fr cs none s w).bare = .go { frame := fr.finish v, callers := cs, status := .running, dying := none } w' := by
  simp [Go.stepG.apply, h]
theorem apply_skip {fr : Frame} {s : Sem Next} {w' : World} (h : s.run P w = .ok .skip w') :
    (Go.stepG.apply P true fr cs none s w).bare = .go { frame := fr.finish Go.undef, callers := cs, status := .running, dying := none } w' := by
  simp [Go.stepG.apply, h]
theorem apply_done {fr : Frame} {s : Sem Next} {w' : World} {nx : Next} {v : Value} (h : s.run P w = .ok nx w') (hd : Done nx v) :
    (Go.stepG.apply P true fr cs none s w).bare = .go { frame := fr.finish v, callers := cs, status := .running, dying := none } w' := by
  rcases hd with rfl | ⟨rfl, rfl⟩
  · exact apply_value h
  · exact apply_skip h
theorem apply_defer {fr : Frame} {s : Sem Next} {w' : World} {d : Deferred} (h : s.run P w = .ok (.defer d) w') :
    (Go.stepG.apply P true fr cs none s w).bare = .go { frame := ({ fr with defers := d :: fr.defers } : Frame).finish Go.undef, callers := cs, status := .running, dying := none } w' := by
  simp [Go.stepG.apply, h]
theorem apply_panic {fr : Frame} {s : Sem Next} {w' : World} {v : Value} (h : s.run P w = .halt (.panic v) w') :
    (Go.stepG.apply P true fr cs none s w).bare = .go { frame := fr.raise [{ v, recovered := false }], callers := cs, status := .running, dying := none } w' := by
  simp [Go.stepG.apply, h]
/-- a frame at which a call is no wrapper's -/
def unwrapped (fr : Frame) : Prop := ∀ d r sv k, fr.todo ≠ Item.call d true r sv :: k
theorem apply_enter {fr : Frame} {s : Sem Next} {w' : World} {f : FuncId} {args : Array Value} (h : s.run P w = .ok (.enter f args) w') (hu : unwrapped fr) :
    (Go.stepG.apply P true fr cs none s w).bare = .go { frame := Frame.enter P f args .normal, callers := fr :: cs, status := .running, dying := none } w' := by
  have hk : (match fr.todo with | .call _ true _ _ :: _ => CallKind.wrapped | _ => .normal) = .normal := by
    split
    · rename_i heq; exact absurd heq (hu _ _ _ _)
    · rfl
  simp [Go.stepG.apply, h]
  exact congrArg (Frame.enter P f args) hk
theorem apply_round {fr : Frame} {s : Sem Next} {w' : World} {l : Nat} {f : FuncId} {tmps : Array Value} {a b : Code} (h : s.run P w = .ok (.round l f tmps a b) w') :
    (Go.stepG.apply P true fr cs none s w).bare = .go { frame := Frame.round l f tmps a b .normal, callers := fr :: cs, status := .running, dying := none } w' := by
  simp [Go.stepG.apply, h]

theorem rangeA_ok (hN : NoNum P) {hd : Hd} {tmps : Tm} {k : List AItem} {st : St} {fr' : Frame} {f : Operand} {ps : Array Tmp} {a b : Code} (h : FRel P φ ⟨hd, tmps, .code (.rangeFunc f ps a b) :: k, st, .run⟩ fr' cs) (H : HRel φ A w.heap) (hG : GlobOk P φ) (hz : st.hist = []) :
    StepOk P φ A.next A w st.rcv hd cs (lone fr' cs w) (rangeA P hd tmps k st A (opd P tmps f) ps a b) := by
  have hm := mode_run h rfl
  obtain ⟨it', k', ht, hi, hk⟩ := todo_cons (h.todo rfl)
  cases hi
  have hE := h.eval hG f
  have hkd : fr'.kind = .normal ∨ fr'.kind = .deferred := by rw [h.kind]; exact kindOf_or _
  unfold rangeA
  split
  · rename_i g first cap hf
    rw [show opd P tmps f = .func g first cap from hf] at hE
    obtain ⟨x', c', hv, hx, hc⟩ := hE.func_inv
    split
    · rename_i hro
      have hr' : fr'.roundOf = none := by
        have := h.round; simp only [hro] at this
        cases hq : fr'.roundOf with
        | none => rfl
        | some _ => rw [hq] at this; exact this.elim
      split
      · rename_i cal hcal
        obtain ⟨fn, c, hfn, hb, hlen, rfl⟩ := enterA_ok hcal
        -- the two blocks
        let D : Obj := .deferred (some [])
        let L : Obj := .loop { state := .ready, pending := none, fn := fr'.fn, tmps := fr'.tmps, params := ps, assign := a, body := b, defers := w.heap.size }
        obtain ⟨f1, f2⟩ := H.fresh
        have H1 := H.alloc (o := .deferred) (obj := D) (s := 0) (l := 0) f1 f2 (AW.get_push A .deferred) (by rw [AW.next_push]; omega) (by rw [AW.next_push]; omega) .deferred
        have G1 := Goes.alloc (lo := A.next) (w := w) (obj := D) (s := 0) (l := 0) (n := w.drawn) f1 (AW.get_push A .deferred) (by rw [AW.next_push]; omega) (Nat.le_refl _)
        obtain ⟨g1, g2⟩ := H1.fresh
        have hle1 := Phi.le_put φ A.next (w.heap.size, 0, 0) f1
        have hnx : (A.push .deferred).next = A.next + 1 := AW.next_push _ _
        have hle2 := Phi.le_put (φ.put A.next (w.heap.size, 0, 0)) (A.push .deferred).next ((w.heap.push D).size, 0, 0) g1
        have ho : ORel ((φ.put A.next (w.heap.size, 0, 0)).put (A.push .deferred).next ((w.heap.push D).size, 0, 0)) (.loop ⟨.ready, none, hd.fn, hd.n, tmps, ps, a, b, A.next⟩) L 0 0 :=
          .loop rfl rfl h.fn ((h.tmps.mono hle1).mono hle2) rfl rfl rfl (hle2 _ _ (Phi.put_same _ _ _))
        have hnx2 : ((A.push .deferred).push (.loop ⟨.ready, none, hd.fn, hd.n, tmps, ps, a, b, A.next⟩)).next = A.next + 2 := by rw [AW.next_push, hnx]
        have H2 := H1.alloc g1 g2 (AW.get_push (A.push .deferred) (.loop ⟨.ready, none, hd.fn, hd.n, tmps, ps, a, b, A.next⟩)) (by omega) (by omega) ho
        have G2 := Goes.alloc (lo := A.next) (w := { w with heap := w.heap.push D }) (obj := L) (s := 0) (l := 0) (n := w.drawn) g1 (AW.get_push (A.push .deferred) (.loop ⟨.ready, none, hd.fn, hd.n, tmps, ps, a, b, A.next⟩)) (by omega) (by omega)
        have hφ2 : ((φ.put A.next (w.heap.size, 0, 0)).put (A.push .deferred).next ((w.heap.push D).size, 0, 0)) (Nat.succ A.next) = some (w.heap.size + 1, 0, 0) := by
          rw [show Nat.succ A.next = (A.push .deferred).next from hnx.symm, Phi.put_same]; simp
        have hargs : VRels ((φ.put A.next (w.heap.size, 0, 0)).put (A.push .deferred).next ((w.heap.push D).size, 0, 0)) (first ++ (.yield (Nat.succ A.next) :: cap)) ((x' ++ #[Value.func (.yield (w.heap.size + 1)) #[] #[]]) ++ c').toList := by
          simp only [Array.toList_append, List.append_assoc]
          refine ((hx.mono hle1).mono hle2).append ?_
          exact .cons (.yield hφ2) ((hc.mono hle1).mono hle2)
        let fr1' : Frame := { fr' with todo := .inRangeFunc (w.heap.size + 1) :: k', defers := { target := .collected w.heap.size, args := #[] } :: fr'.defers }
        have hcalF := enterC_ok (cs := fr1' :: cs) hfn hb hargs hlen (df := false) (rcv := .none) (rrel_normal rfl _)
        refine ⟨_, _, fr1', { w with heap := (w.heap.push D).push L }, .one (step_lone_go ?_), hcalF, ?_, H2, G1.trans G2, rfl, rfl, rfl, hz, .norm rfl rfl rfl⟩
        · have hent : (Instr.enterLoop fr'.fn fr'.tmps ps a b none).run P w = .ok (w.heap.size + 1, [{ target := .collected w.heap.size, args := #[] }]) { w with heap := (w.heap.push D).push L } := by
            simp only [Instr.enterLoop, Sem.run_bind, newObj, Sem.run, Result.andThen_ok, Pure.pure, D, L, Array.size_push]
          have hev : ({ fr' with todo := .inRangeFunc (w.heap.size + 1) :: k', defers := { target := .collected w.heap.size, args := #[] } :: fr'.defers } : Frame).eval = fr'.eval := by
            funext x; cases x <;> rfl
          have hcall : (do let d ← resolve fr'.eval { callee := .value f, args := #[.const (.func (.yield (w.heap.size + 1)) #[] #[])], argTypes := #[] } 0; invoke d.target d.args : Sem Next).run P { w with heap := (w.heap.push D).push L } =
              .ok (.enter g ((x' ++ #[Value.func (.yield (w.heap.size + 1)) #[] #[]]) ++ c')) { w with heap := (w.heap.push D).push L } := by
            have hmap : Array.map fr'.eval #[Operand.const (Value.func (Fn.yield (w.heap.size + 1)) #[] #[])] = #[Value.func (Fn.yield (w.heap.size + 1)) #[] #[]] := by simp [Frame.eval]
            simp only [resolve, hv, Deferred.ofValue, Sem.run_bind, Sem.run_pure, Result.andThen_ok, invoke, hmap]
            exact run_callFunc hN hfn hb _ _
          simp only [Go.stepG, Go.stepG.exec, hm, ht, hr', Sem.runT_eq, hent, GStep.bare_after]
          refine (apply_enter (by rw [← hcall]; rfl) (fun d r sv k => by simp)).trans ?_
          simp only [fr1', hr', hm]
          rfl
        · refine ⟨h.fn, (h.tmps.mono hle1).mono hle2, fun _ => .cons (.inRangeFunc hφ2) (hk.mono fun _ _ r => IRel.mono (Phi.le_trans hle1 hle2) r), .cons (.collected (hle2 _ _ (Phi.put_same _ _ _))) (h.defers.mono fun _ _ r => DRel.mono (Phi.le_trans hle1 hle2) r), h.mode.mono (Phi.le_trans hle1 hle2), h.kind, h.round.mono (Phi.le_trans hle1 hle2), (h.rcv.mono (Phi.le_trans hle1 hle2)).kind rfl hkd, h.known, h.plain⟩
      · trivial
    · rename_i o hro
      split
      · rename_i r hA
        split
        · rename_i cal hcal
          have hro' := h.round
          simp only [hro] at hro'
          cases hq : fr'.roundOf with
          | none => rw [hq] at hro'; exact hro'.elim
          | some R =>
            rw [hq] at hro'
            have hφ : φ o = some (R, 0, 0) := hro'
            obtain ⟨r', e2, h1, h2, h3, h4, h5, h6, h7, h8⟩ := H.loop hφ hA
            obtain ⟨fn, c, hfn, hb, hlen, rfl⟩ := enterA_ok hcal
            let L : Obj := .loop { state := .ready, pending := none, fn := fr'.fn, tmps := fr'.tmps, params := ps, assign := a, body := b, defers := r'.defers }
            obtain ⟨f1, f2⟩ := H.fresh
            have hle1 := Phi.le_put φ A.next (w.heap.size, 0, 0) f1
            have hnx : (A.push (.loop ⟨.ready, none, hd.fn, hd.n, tmps, ps, a, b, r.defers⟩)).next = A.next + 1 := AW.next_push _ _
            have ho : ORel (φ.put A.next (w.heap.size, 0, 0)) (.loop ⟨.ready, none, hd.fn, hd.n, tmps, ps, a, b, r.defers⟩) L 0 0 :=
              .loop rfl rfl h.fn (h.tmps.mono hle1) rfl rfl rfl (hle1 _ _ h8)
            have H1 := H.alloc (obj := L) f1 f2 (AW.get_push A (.loop ⟨.ready, none, hd.fn, hd.n, tmps, ps, a, b, r.defers⟩)) (by omega) (by omega) ho
            have G1 := Goes.alloc (lo := A.next) (w := w) (obj := L) (s := 0) (l := 0) (n := w.drawn) f1 (AW.get_push A (.loop ⟨.ready, none, hd.fn, hd.n, tmps, ps, a, b, r.defers⟩)) (by omega) (Nat.le_refl _)
            have hargs : VRels (φ.put A.next (w.heap.size, 0, 0)) (first ++ (.yield A.next :: cap)) ((x' ++ #[Value.func (.yield w.heap.size) #[] #[]]) ++ c').toList := by
              simp only [Array.toList_append, List.append_assoc]
              refine (hx.mono hle1).append ?_
              exact .cons (.yield (Phi.put_same _ _ _)) (hc.mono hle1)
            let fr1' : Frame := { fr' with todo := .inRangeFunc w.heap.size :: k' }
            have hcalF := enterC_ok (cs := fr1' :: cs) hfn hb hargs hlen (df := false) (rcv := .none) (rrel_normal rfl _)
            refine ⟨_, _, fr1', { w with heap := w.heap.push L }, .one (step_lone_go ?_), hcalF, ?_, H1, G1, rfl, rfl, rfl, hz, .norm rfl rfl rfl⟩
            · have hent : (Instr.enterLoop fr'.fn fr'.tmps ps a b (some R)).run P w = .ok (w.heap.size, []) { w with heap := w.heap.push L } := by
                simp only [Instr.enterLoop, Instr.getLoop, Sem.run_bind, run_getObj e2 (by simp), newObj, Sem.run, Result.andThen_ok, Pure.pure, L]
              have hcall : (do let d ← resolve fr'.eval { callee := .value f, args := #[.const (.func (.yield w.heap.size) #[] #[])], argTypes := #[] } 0; invoke d.target d.args : Sem Next).run P { w with heap := w.heap.push L } =
                  .ok (.enter g ((x' ++ #[Value.func (.yield w.heap.size) #[] #[]]) ++ c')) { w with heap := w.heap.push L } := by
                have hmap : Array.map fr'.eval #[Operand.const (Value.func (Fn.yield w.heap.size) #[] #[])] = #[Value.func (Fn.yield w.heap.size) #[] #[]] := by simp [Frame.eval]
                simp only [resolve, hv, Deferred.ofValue, Sem.run_bind, Sem.run_pure, Result.andThen_ok, invoke, hmap]
                exact run_callFunc hN hfn hb _ _
              simp only [Go.stepG, Go.stepG.exec, hm, ht, hq, Sem.runT_eq, hent, GStep.bare_after]
              refine (apply_enter (by rw [← hcall]; rfl) (fun d r sv k => by simp)).trans ?_
              simp only [fr1', hq, hm]
              rfl
            · refine ⟨h.fn, h.tmps.mono hle1, fun _ => .cons (.inRangeFunc (Phi.put_same _ _ _)) (hk.mono fun _ _ r => IRel.mono hle1 r), h.defers.mono fun _ _ r => DRel.mono hle1 r, h.mode.mono hle1, h.kind, h.round.mono hle1, (h.rcv.mono hle1).kind rfl hkd, h.known, h.plain⟩
        · trivial
      · trivial
  · trivial

end
end Go.Ae

/- Steps of operations, at both (outside regions that draw). -/
namespace Go.Ae
open Go

/-- what the calls that are known do -/
def PrimsOk (P : Program) (pr : Prims) : Prop := ∀ f args A v A', pr f args A = some (v, A') → ∀ φ w args', VRels φ args args'.toList → HRel φ A w.heap → GlobOk P φ →
  (∃ fn c, P.funcs[f]? = some fn ∧ fn.body = some c) ∧ ∀ (c : Frame) (cs : List Frame), ∃ φ' v' w', VRel φ' v v' ∧ Steps P (lone (Frame.enter P f args' .normal) (c :: cs) w) (lone (c.finish v') cs w') ∧ HRel φ' A' w'.heap ∧ Goes A.next φ A w φ' A' w'

/-- what the functions without a body do -/
def ExtsOk (P : Program) : Prop := ∀ f fn e args A v A', P.funcs[f]? = some fn → fn.body = none → extTable.lookup fn.name = some e → extCall P e fn.resultTypes args A = some (v, A') →
  ∀ φ args', VRels φ args args'.toList → GlobOk P φ → OpOk P φ A (callFunc f args') (.ef v A')

section
variable {P : Program} {φ : Phi} {A : AW} {w : World} {cs : List Frame}

theorem wantedA_ok {n : Nat} {ops : Array Oper} {tmps : Tm} {a : Array Value} {o : Oper} {b : Bool} (ht : TRel φ n tmps a) (h : wantedA ops tmps o.guard = some b) : Region.wanted o (yielded ops a) = b := by
  unfold wantedA at h
  unfold Region.wanted
  split at h
  · rename_i hg
    rw [hg]
    simp only [Option.some.injEq] at h
    exact h
  · rename_i j want hg
    rw [hg]
    simp only []
    split at h
    · rename_i d hd
      have hd' : (ops[j]?).bind (·.dst) = some d := by
        unfold dstOf at hd
        cases ho : ops[j]? with
        | none => rw [ho] at hd; cases hd
        | some o => rw [ho] at hd; exact hd
      have hv := ht.2 d
      have hget : ∀ {v : Value}, a.getD d Go.undef = v → v ≠ Go.undef → a[d]? = some v := by
        intro v hv hne
        rw [Array.getD_eq_getD_getElem?] at hv
        cases ha : a[d]? with
        | none => rw [ha] at hv; exact absurd hv.symm hne
        | some u => rw [ha] at hv; simp only [Option.getD_some] at hv; rw [hv]
      split at h
      · rename_i t htm
        rw [htm] at hv
        simp only [Option.some.injEq] at h
        have hvt : a.getD d Go.undef = .bool t := by generalize a.getD d Go.undef = v at hv; cases hv; rfl
        have := hget hvt (by simp [Go.undef])
        simp only [yielded, hd', Option.bind_some, this]
        rw [← h]
        rfl
      · rename_i htm
        rw [htm] at hv
        simp only [Option.some.injEq] at h
        subst h
        have hvt : a.getD d Go.undef = Go.undef := by
          generalize a.getD d Go.undef = v at hv
          cases hv with
          | tuple hx =>
            rename_i x'
            cases x' with
            | mk l => cases hx; rfl
        have hno : ∀ t, a[d]? ≠ some (.bool t) := by
          intro t ht'
          rw [Array.getD_eq_getD_getElem?, ht'] at hvt
          cases hvt
        simp only [yielded, hd', Option.bind_some]
        cases ha : a[d]? with
        | none => rfl
        | some v => cases v <;> first | rfl | exact absurd ha (hno _)
      · cases h
    · cases h

theorem finish_reg {fr' : Frame} {ops : Array Oper} {i : Nat} {o : Oper} {rest : List Nat} {k' : List Item} (ht : fr'.todo = .inRegion ops (i :: rest) :: k') (ho : ops[i]? = some o) (v : Value) :
    fr'.finish v = { fr' with tmps := putV fr'.tmps o.dst v, todo := .inRegion ops rest :: k' } := by
  simp only [Frame.finish, ht, ho, Option.bind_some, putV]
  cases o.dst <;> rfl

theorem frel_finish {hd : Hd} {tmps : Tm} {ops : Array Oper} {i : Nat} {o : Oper} {rest : List (Nat × Oper)} {k : List AItem} {st st1 : St} {fr' : Frame} {cs1 : List Frame} {v : AV} {u : Value} {φ1 : Phi}
    (h : FRel P φ ⟨hd, tmps, .inReg ops ((i, o) :: rest) :: k, st, .run⟩ fr' cs) (hle : φ.le φ1) (hdst : dstOk hd.n o.dst = true) (hv : VRel φ1 v u) (hd1 : st1.defers = st.defers) (hr1 : RRel φ1 (fr'.finish u) st1.rcv cs1) :
    FRel P φ1 ⟨hd, put tmps o.dst v, .inReg ops rest :: k, st1, .run⟩ (fr'.finish u) cs1 := by
  obtain ⟨it', k', ht, hi, hk⟩ := todo_cons (h.todo rfl)
  cases hi with
  | inReg hl =>
    cases hl with
    | cons ho hrest =>
      obtain ⟨rfl, ho⟩ := ho
      have hf := finish_reg ht ho u
      rw [hf] at hr1 ⊢
      have h' := h.mono hle
      exact ⟨h.fn, h'.tmps.put hdst hv, fun _ => .cons (.inReg hrest) (hk.mono fun _ _ r => IRel.mono hle r), by rw [hd1]; exact h'.defers, h'.mode, h.kind, h'.round, hr1, h.known, h.plain⟩

theorem rrel_finish {fr' : Frame} {r : ARcv} (h : RRel φ fr' r cs) (hk : fr'.kind = .normal ∨ fr'.kind = .deferred) (v : Value) : RRel φ (fr'.finish v) r cs := by
  refine h.kind ?_ hk
  unfold Frame.finish
  split <;> rfl

theorem histZero (st : St) (h : st.hist = []) (A : AW) : (st.did A) = st := by
  obtain ⟨d, r, hh⟩ := st
  simp only at h
  subst h
  rfl

theorem actZero (st : St) (h : st.hist = []) (op : Op) (A : AW) : (st.act op A) = st := by
  obtain ⟨d, r, hh⟩ := st
  simp only at h
  subst h
  rfl

theorem apply_recover_some {fr : Frame} {s : Sem Next} {w' : World} {v : Value} {cs' : List Frame} (h : s.run P w = .ok .recover w') (hr : fr.roundOf = none) (ht : tryRecover fr cs = some (v, cs')) :
    (Go.stepG.apply P true fr cs none s w).bare = .go { frame := fr.finish v, callers := cs', status := .running, dying := none } w' := by
  simp [Go.stepG.apply, h, hr, ht]
theorem apply_recover_none {fr : Frame} {s : Sem Next} {w' : World} (h : s.run P w = .ok .recover w') (hr : fr.roundOf = none) (ht : tryRecover fr cs = none) :
    (Go.stepG.apply P true fr cs none s w).bare = .go { frame := fr.finish .nilIface, callers := cs, status := .running, dying := none } w' := by
  simp [Go.stepG.apply, h, hr, ht]

theorem TRel.params {n : Nat} : ∀ (ps : List Tmp) {args : List AV} {args' : List Value} {t : Tm} {a : Array Value}, (ps.all fun p => Nat.blt p n) = true → VRels φ args args' → TRel φ n t a →
    TRel φ n ((ps.zip args).foldl (fun t pa => Ae.upd t pa.1 pa.2) t) ((ps.zip args').foldl (fun a (p : Tmp × Value) => a.setIfInBounds p.1 p.2) a)
  | [], _, _, _, _, _, _, h => by simpa using h
  | p :: ps, args, args', t, a, hp, ha, h => by
    simp only [List.all_cons, Bool.and_eq_true] at hp
    cases ha with
    | nil => simpa using h
    | cons hv hvs =>
      simp only [List.zip_cons_cons, List.foldl_cons]
      exact TRel.params ps hp.2 hvs (h.upd (blt_lt hp.1) hv)

theorem stepOp_ok (hN : NoNum P) {pr : Prims} (hP : PrimsOk P pr) (hX : ExtsOk P) {hd : Hd} {tmps : Tm} {ops : Array Oper} {i : Nat} {o : Oper} {rest : List (Nat × Oper)} {k : List AItem} {st : St} {fr' : Frame}
    (h : FRel P φ ⟨hd, tmps, .inReg ops ((i, o) :: rest) :: k, st, .run⟩ fr' cs) (H : HRel φ A w.heap) (hG : GlobOk P φ) (hh : st.hist = []) :
    StepOk P φ A.next A w st.rcv hd cs (lone fr' cs w) (stepOp P pr hd tmps ops i o rest k st A) := by
  have hm := mode_run h rfl
  have hkd : fr'.kind = .normal ∨ fr'.kind = .deferred := by rw [h.kind]; exact kindOf_or _
  obtain ⟨it', k', ht, hi, hk⟩ := todo_cons (h.todo rfl)
  cases hi with
  | inReg hl =>
  cases hl with
  | cons ho hrest =>
  rename_i is j
  obtain ⟨hij, ho⟩ := ho
  simp only at hij ho
  subst hij
  unfold stepOp
  cases hdst : dstOk hd.n o.dst with
  | false => trivial
  | true =>
  simp only [cond_true]
  -- an operation that is done
  have doneOk : ∀ {φ1 : Phi} {A1 : AW} {w1 : World} {v : AV} {u : Value}, step P (lone fr' cs w) = .next (lone (fr'.finish u) cs w1) → VRel φ1 v u → HRel φ1 A1 w1.heap → Goes A.next φ A w φ1 A1 w1 →
      StepOk P φ A.next A w st.rcv hd cs (lone fr' cs w) (behind hd tmps ops rest k st o.dst v A1) := by
    intro φ1 A1 w1 v u hs hv H1 G1
    unfold behind
    rw [force_eq]
    exact ⟨φ1, fr'.finish u, cs, w1, .one hs, frel_finish h G1.le hdst hv rfl (rrel_finish (h.rcv.mono G1.le) hkd u), H1, G1, .same _ _, rfl, hh⟩
  split
  · rename_i hw
    have hwant := wantedA_ok h.tmps hw
    have hE := h.eval hG
    have law := execOp_ok (A := A) hE o
    -- the model's step
    have hstep : (∀ l c, fr'.roundOf = some l → o.op ≠ .defer c) → Go.stepG P true { frame := fr', callers := cs, status := .running, dying := none } w = Go.stepG.apply P true fr' cs none (execOp fr'.eval o) w := by
      intro hnd
      have hop : fr'.oper? = some o := by simp [Frame.oper?, ht, ho]
      simp only [Go.stepG, hm, Go.stepG.exec, ht, ho, Option.map_some, hwant, Option.getD_some, if_true, Go.stepG.oper, hop]
    have notDefer : (∀ d, opRes P tmps A o.op ≠ .dfr d) → (opRes P tmps A o.op ≠ .bad) → ∀ l c, fr'.roundOf = some l → o.op ≠ .defer c := by
      intro h1 h2 l c _ hc
      rw [hc] at h1 h2
      simp only [opRes] at h1 h2
      split at h1
      · unfold hDefer at h1 h2
        split at h1
        · exact h1 _ rfl
        · rename_i hf _ hne
          rw [hf] at h2
          simp only at h2
          exact h2 rfl
      · rename_i hne
        split at h2
        · rename_i f hf; exact absurd hf (hne _)
        · exact h2 rfl
    have hunw : unwrapped fr' := by intro d r sv k; rw [ht]; simp
    cases hr : opRes P tmps A o.op with
    | bad => trivial
    | val v =>
      rw [hr] at law
      obtain ⟨u, h1, h2⟩ := law
      have hs := hstep (notDefer (by rw [hr]; simp) (by rw [hr]; simp))
      simp only [actA]
      rw [actZero st hh]
      exact doneOk (step_lone_go (by rw [hs]; exact apply_value (h2 w))) h1 H (Goes.refl _ _ _ _)
    | rd q =>
      rw [hr] at law
      have hs := hstep (notDefer (by rw [hr]; simp) (by rw [hr]; simp))
      simp only [actA]
      split
      · rename_i v hq
        obtain ⟨u, h1, h2⟩ := law A w v H hq
        rw [hh]
        exact doneOk (step_lone_go (by rw [hs]; exact apply_value h2)) h1 H (Goes.refl _ _ _ _)
      · trivial
    | al ob v =>
      rw [hr] at law
      have hs := hstep (notDefer (by rw [hr]; simp) (by rw [hr]; simp))
      obtain ⟨obj, u, n, s, l, h1, h2⟩ := law w
      obtain ⟨f1, f2⟩ := H.fresh
      obtain ⟨g1, g2⟩ := h2 A.next f1
      simp only [actA, hh]
      exact doneOk (step_lone_go (by rw [hs]; exact apply_value h1)) g2 (H.alloc f1 f2 (AW.get_push A ob) (by rw [AW.next_push]; omega) (by rw [AW.next_push]; omega) g1)
        (Goes.alloc f1 (AW.get_push A ob) (by rw [AW.next_push]; omega) (Nat.le_refl _))
    | ef v A' =>
      rw [hr] at law
      have hs := hstep (notDefer (by rw [hr]; simp) (by rw [hr]; simp))
      obtain ⟨φ', nx, u, w', h1, h2, h3, h4, h5⟩ := law w H
      simp only [actA]
      rw [histZero st hh]
      exact doneOk (step_lone_go (by rw [hs]; exact apply_done h1 h2)) h4 h3 h5
    | rcvr =>
      rw [hr] at law
      have hs := hstep (notDefer (by rw [hr]; simp) (by rw [hr]; simp))
      simp only [actA, recA]
      have hro0 : hd.roundOf = none → fr'.roundOf = none := by
        intro hro
        have := h.round; simp only [hro] at this
        cases hq : fr'.roundOf with
        | none => rfl
        | some _ => rw [hq] at this; exact this.elim
      split
      · rename_i v hro _ hrcv
        have hR := h.rcv
        simp only at hR
        rw [hrcv] at hR
        cases hR with
        | avail hkk hmm hv =>
          rename_i v' c cs'
          unfold behind
          rw [force_eq]
          have htr : tryRecover fr' (c :: cs') = some (v', { c with mode := .panicking [{ v := v', recovered := true, goexit := false }] } :: cs') := by
            simp only [tryRecover, hkk, hmm]
          refine ⟨φ, fr'.finish v', _, w, .one (step_lone_go (by rw [hs]; exact apply_recover_some (law w) (hro0 hro) htr)), frel_finish h (Phi.le_refl _) hdst hv rfl ?_, H, Goes.refl _ _ _ _, by rw [hrcv]; exact .took hmm, rfl, rfl⟩
          refine .taken ?_ rfl
          have hfk : (fr'.finish v').kind = fr'.kind := by unfold Frame.finish; split <;> rfl
          rw [hfk]; exact hkk
      · rename_i hro _ hrcv
        have hR := h.rcv
        simp only at hR
        rw [hrcv] at hR
        cases hR with
        | none htr => exact doneOk (step_lone_go (by rw [hs]; exact apply_recover_none (law w) (hro0 hro) htr)) .nilIface H (Goes.refl _ _ _ _)
      · trivial
    | pan v =>
      rw [hr] at law
      have hs := hstep (notDefer (by rw [hr]; simp) (by rw [hr]; simp))
      obtain ⟨u, h1, h2⟩ := law
      simp only [actA, hh]
      refine ⟨φ, fr'.raise [{ v := u, recovered := false }], cs, w, .one (step_lone_go (by rw [hs]; exact apply_panic (h2 w))), ?_, H, Goes.refl _ _ _ _, .same _ _, rfl, hh⟩
      have hrs : fr'.raise [{ v := u, recovered := false }] = { fr' with mode := .panicking [{ v := u, recovered := false }] } := by simp [Frame.raise, hm]
      rw [hrs]
      exact ⟨h.fn, h.tmps, fun hx => (by cases hx), h.defers, .panicking (.cons (.mk h1) .nil), h.kind, h.round, h.rcv.kind rfl hkd, h.known, h.plain⟩
    | dfr d =>
      rw [hr] at law
      simp only [actA]
      split
      · rename_i hro _
        have hr' : fr'.roundOf = none := by
          have := h.round; simp only [hro] at this
          cases hq : fr'.roundOf with
          | none => rfl
          | some _ => rw [hq] at this; exact this.elim
        have hs := hstep (fun l c hl => by rw [hr'] at hl; cases hl)
        cases d with
        | collected r => exact law.elim
        | call g cap args =>
          obtain ⟨cap', args', h1, h2, h3⟩ := law
          unfold behind
          rw [force_eq]
          refine ⟨φ, ({ fr' with defers := { target := .fn (.func g) cap', args := args' } :: fr'.defers } : Frame).finish Go.undef, cs, w, .one (step_lone_go (by rw [hs]; exact apply_defer (h3 w))), ?_, H, Goes.refl _ _ _ _, .same _ _, rfl, rfl⟩
          have h' : FRel P φ ⟨hd, tmps, .inReg ops ((i, o) :: rest) :: k, ⟨.call g cap args :: st.defers, st.rcv, []⟩, .run⟩ { fr' with defers := { target := .fn (.func g) cap', args := args' } :: fr'.defers } cs :=
            ⟨h.fn, h.tmps, h.todo, .cons (.call h1 h2) h.defers, h.mode, h.kind, h.round, h.rcv.kind rfl hkd, h.known, h.plain⟩
          exact frel_finish h' (Phi.le_refl _) hdst VRel.undef rfl (rrel_finish h'.rcv hkd _)
      · trivial
    | pick n c =>
      rw [hr] at law
      have hs := hstep (notDefer (by rw [hr]; simp) (by rw [hr]; simp))
      simp only [actA, hh]
      obtain ⟨j, hj, u, w', h1, h2, h3, h4⟩ := law w H
      exact ⟨j, hj, φ, fr'.finish u, cs, w', .one (step_lone_go (by rw [hs]; exact apply_value h1)), frel_finish h (Phi.le_refl _) hdst h3 rfl (rrel_finish h.rcv hkd u), h2, h4, .same _ _, rfl, hh⟩
    | call t =>
      rw [hr] at law
      have hs := hstep (notDefer (by rw [hr]; simp) (by rw [hr]; simp))
      cases t with
      | fn f args =>
        obtain ⟨args', h1, h2⟩ := law
        simp only [actA, callA]
        split
        · rename_i v A' hv
          obtain ⟨⟨fn, c, hfn, hb⟩, hrun⟩ := hP f args A v A' hv φ w args' h1 H hG
          obtain ⟨φ', v', w', k1, k2, k3, k4⟩ := hrun fr' cs
          rw [histZero st hh]
          unfold behind
          rw [force_eq]
          exact ⟨φ', fr'.finish v', cs, w', .head (step_lone_go (by rw [hs]; exact apply_enter (by rw [h2]; exact run_callFunc hN hfn hb _ _) hunw)) k2, frel_finish h k4.le hdst k1 rfl (rrel_finish (h.rcv.mono k4.le) hkd v'), k3, k4, .same _ _, rfl, hh⟩
        · split
          · trivial
          · rename_i fn hfn
            split
            · rename_i c hb
              cases hn : Nat.ble args.length fn.ntmps with
              | false => trivial
              | true =>
                have hcalF := enterC_ok (cs := fr' :: cs) hfn hb h1 (Nat.le_of_ble_eq_true hn) (df := false) (rcv := .none) (rrel_normal rfl _)
                exact ⟨φ, _, fr', w, .one (step_lone_go (by rw [hs]; exact apply_enter (by rw [h2]; exact run_callFunc hN hfn hb _ _) hunw)), hcalF, h, H, Goes.refl _ _ _ _, rfl, rfl, rfl, hh, .norm rfl rfl rfl⟩
            · rename_i hb
              split
              · rename_i e he
                split
                · rename_i v A' hv
                  obtain ⟨φ', nx, u, w', g1, g2, g3, g4, g5⟩ := hX f fn e args A v A' hfn hb he hv φ args' h1 hG w H
                  rw [histZero st hh]
                  exact doneOk (step_lone_go (by rw [hs]; exact apply_done (by rw [h2]; exact g1) g2)) g4 g3 g5
                · trivial
              · trivial
      | yield l args =>
        obtain ⟨R, s, l', args', hφ, h1, h2⟩ := law
        simp only [actA, yieldA]
        split
        · rename_i r hA
          obtain ⟨R1, s1, l1, obj, e1, e2, e3⟩ := H.con l _ hA
          rw [hφ] at e1
          cases e1
          cases e3 with
          | loop q1 q2 q3 q4 q5 q6 q7 q8 =>
            rename_i r'
            cases hc : (Nat.beq args.length r.params.size && r.params.toList.all fun p => Nat.blt p r.n) with
            | false => trivial
            | true =>
              simp only [Bool.and_eq_true] at hc
              have hlen := Nat.eq_of_beq_eq_true hc.1
              have hl1 := h1.length
              simp only [Array.length_toList] at hl1
              have hrun : (Instr.yield R args').run P w = .ok (.round R r'.fn ((r'.params.zip args').foldl (fun tmps (t, a) => tmps.setIfInBounds t a) r'.tmps) r'.assign r'.body) w := by
                have hne : ¬ (args'.size ≠ r'.params.size) := by rw [q5]; omega
                simp only [Instr.yield, Instr.getLoop, Sem.run_bind, run_getObj e2 (by simp), Result.andThen_ok, Sem.run_pure, hne, if_false]
              refine ⟨φ, _, fr', w, .one (step_lone_go (by rw [hs]; exact apply_round (by rw [h2]; exact hrun))), ?_, h, H, Goes.refl _ _ _ _, rfl, rfl, rfl, hh, .norm rfl rfl rfl⟩
              refine ⟨q3, ?_, fun _ => ?_, .nil, .run, rfl, hφ, rrel_normal rfl _, fun hx => (by cases hx), fun _ => rfl⟩
              · have := TRel.params r.params.toList hc.2 h1 q4
                have hz : (r'.params.zip args').foldl (fun (tmps : Array Value) (x : Tmp × Value) => match x with | (t, a) => tmps.setIfInBounds t a) r'.tmps = (r.params.toList.zip args'.toList).foldl (fun a (p : Tmp × Value) => a.setIfInBounds p.1 p.2) r'.tmps := by
                  rw [← Array.foldl_toList, Array.toList_zip, q5]
                show TRel φ r.n _ ((r'.params.zip args').foldl (fun (tmps : Array Value) (x : Tmp × Value) => match x with | (t, a) => tmps.setIfInBounds t a) r'.tmps)
                rw [hz]
                exact this
              · simp only [Frame.round, q6, q7]
                exact .cons (.code _) (.cons .beginRound (.cons (.code _) .nil))
        · trivial
  · rename_i hw
    have hwant := wantedA_ok h.tmps hw
    rw [actZero st hh]
    refine doneOk (step_lone_go ?_) VRel.undef H (Goes.refl _ _ _ _)
    simp [Go.stepG, Go.stepG.exec, hm, ht, ho, hwant]
  · trivial

end
end Go.Ae

/- Frames that leave: deferred calls, results. -/
namespace Go.Ae
open Go
section
variable {P : Program} {φ : Phi} {A : AW} {w : World} {cs : List Frame}

def resOne (a : Array Value) : ResultVar → Sem Value
  | .tmp t => pure (a.getD t Go.undef)
  | .cell c t => do loadVar t (← asAddr (a.getD c Go.undef))
theorem results_eq (fn : Func) (a : Array Value) : results fn a = (do let vs ← fn.results.mapM (resOne a); pure (if h : vs.size = 1 then vs[0] else .tuple vs)) := by
  unfold results
  congr 1

theorem resA_ok {n : Nat} {tmps : Tm} {a : Array Value} (H : HRel φ A w.heap) (ht : TRel φ n tmps a) : ∀ (rs : List ResultVar) (vs : List AV), resA P tmps A rs = some vs →
    ∃ us, VRels φ vs us ∧ (rs.mapM (resOne a)).run P w = .ok us w
  | [], vs, h => by simp only [resA, Option.some.injEq] at h; subst h; exact ⟨[], .nil, rfl⟩
  | r :: rs, vs, h => by
    simp only [resA] at h
    split at h
    · rename_i v vs' hv hvs
      simp only [Option.some.injEq] at h
      subst h
      obtain ⟨us, h1, h2⟩ := resA_ok H ht rs vs' hvs
      cases r with
      | tmp t =>
        simp only [Option.some.injEq] at hv
        subst hv
        refine ⟨a.getD t Go.undef :: us, .cons (ht.2 t) h1, ?_⟩
        simp only [List.mapM_cons, resOne, Sem.run_bind, Sem.run_pure, Result.andThen_ok, h2]
      | cell c t =>
        simp only at hv
        split at hv
        · rename_i b off hp
          have hr := ht.2 c
          rw [hp] at hr
          obtain ⟨R, s, l, e, hφ⟩ := hr.ptr_inv
          obtain ⟨u, u1, u2⟩ := loadA_ok H hφ hv
          refine ⟨u :: us, .cons u1 h1, ?_⟩
          simp only [List.mapM_cons, resOne, Sem.run_bind, e, asAddr, Sem.run_pure, Result.andThen_ok, u2, h2]
        · cases hv
    · cases h

theorem resultsA_ok {n : Nat} {f : FuncId} {tmps : Tm} {a : Array Value} {v : AV} (H : HRel φ A w.heap) (ht : TRel φ n tmps a) (h : resultsA P f tmps A = some v) :
    ∃ fn v', P.funcs[f]? = some fn ∧ VRel φ v v' ∧ (results fn a).run P w = .ok v' w := by
  unfold resultsA at h
  split at h
  · cases h
  · rename_i fn hf
    have key : ∀ vs, resA P tmps A fn.results.toList = some vs → ∃ us : Array Value, VRels φ vs us.toList ∧ (results fn a).run P w = .ok (if h : us.size = 1 then us[0] else .tuple us) w := by
      intro vs hvs
      obtain ⟨us, h1, h2⟩ := resA_ok (P := P) H ht _ _ hvs
      refine ⟨us.toArray, by simpa using h1, ?_⟩
      simp only [results_eq, Sem.run_bind, Array.mapM_eq_mapM_toList, Sem.run_map, h2, Result.andThen_ok, Sem.run_pure]
    split at h
    · rename_i v0 hvs
      simp only [Option.some.injEq] at h
      subst h
      obtain ⟨us, h1, h2⟩ := key _ hvs
      obtain ⟨u, rfl, hu⟩ := h1.one
      exact ⟨fn, u, hf, hu, by simpa using h2⟩
    · rename_i vs hne hvs
      simp only [Option.some.injEq] at h
      subst h
      obtain ⟨us, h1, h2⟩ := key _ hvs
      have hsz : us.size ≠ 1 := by
        intro h0
        have := h1.length
        simp only [Array.length_toList] at this
        rw [h0] at this
        obtain ⟨x, rfl⟩ := List.length_eq_one_iff.1 this
        exact hne x rfl
      rw [dif_neg hsz] at h2
      exact ⟨fn, .tuple us, hf, .tuple h1, h2⟩
    · cases h

theorem HRel.kill1 {h : Array Obj} (H : HRel φ A h) (b : Nat) : HRel φ (A.set b none) h := by
  have obj : ∀ x o, (A.set b none).get x = some o → A.get x = some o := by
    intro x o hx
    rw [AW.get_set] at hx
    split at hx
    · cases hx
    · exact hx
  refine ⟨fun x o hx => by rw [AW.next_set]; exact H.low x o (obj x o hx), fun x R s l hx => by rw [AW.next_set]; exact H.dom x R s l hx, fun x o hx => H.con x o (obj x o hx),
    fun x x' o o' R s l s' l' hne hx hx' hf hf' => H.sep x x' o o' R s l s' l' hne (obj x o hx) (obj x' o' hx') hf hf'⟩

theorem mode_ne {fr : AF} {fr' : Frame} (h : FRel P φ fr fr' cs) (hm : fr.mode ≠ .run) : fr'.mode ≠ .run := by
  intro hf
  have := h.mode
  rw [hf] at this
  cases hq : fr.mode with
  | run => exact hm hq
  | returning => rw [hq] at this; cases this
  | panicking c => rw [hq] at this; cases this

theorem stepG_unwind {fr' : Frame} (hm : fr'.mode ≠ .run) : Go.stepG P true { frame := fr', callers := cs, status := .running, dying := none } w = unwind P true fr' cs none w := by
  cases hq : fr'.mode with
  | run => exact absurd hq hm
  | returning => simp [Go.stepG, hq]
  | panicking c => simp [Go.stepG, hq]

theorem unwindA_ok (hN : NoNum P) {hd : Hd} {tmps : Tm} {todo : List AItem} {st : St} {mode : AMode} {fr' : Frame} (h : FRel P φ ⟨hd, tmps, todo, st, mode⟩ fr' cs) (hm : mode ≠ .run) (H : HRel φ A w.heap) (hro : hd.roundOf = none) (hz : st.hist = []) :
    StepOk P φ A.next A w st.rcv hd cs (lone fr' cs w) (unwindA P hd tmps todo st mode A) := by
  have hm' := mode_ne h hm
  have hkd : fr'.kind = .normal ∨ fr'.kind = .deferred := by rw [h.kind]; exact kindOf_or _
  have hdf := h.defers
  simp only at hdf
  unfold unwindA
  split
  · rename_i d ds hst
    rw [hst] at hdf
    cases hd' : fr'.defers with
    | nil => rw [hd'] at hdf; cases hdf
    | cons d' ds' =>
    rw [hd'] at hdf
    cases hdf with
    | cons hdd hds =>
    have frel : FRel P φ ⟨hd, tmps, todo, ⟨ds, st.rcv, st.hist⟩, mode⟩ { fr' with defers := ds' } cs :=
      ⟨h.fn, h.tmps, fun hx => absurd hx hm, hds, h.mode, h.kind, h.round, h.rcv.kind rfl hkd, h.known, h.plain⟩
    cases hdd with
    | collected hφ =>
      rename_i b R
      simp only []
      split
      · rename_i hA
        obtain ⟨R1, s1, l1, obj, e1, e2, e3⟩ := H.con b _ hA
        rw [hφ] at e1
        cases e1
        cases e3 with
        | deferred =>
          have H1 := (H.kill1 b).away (R := R) (h' := w.heap.setIfInBounds R (.deferred none)) (fun x o s l hx hf => by
            rw [AW.get_set] at hx
            split at hx
            · cases hx
            · rename_i hxb
              rcases H.sep x b o _ R s l 0 0 hxb hx hA hf hφ with h | h
              · cases h.2
              · cases h.2) (by simp) (fun R' hR' => Array.getElem?_setIfInBounds_ne (Ne.symm hR'))
          refine ⟨φ, { fr' with defers := ds' }, cs, { w with heap := w.heap.setIfInBounds R (.deferred none) }, .one (step_lone_go ?_), frel, H1, ?_, .same _ _, rfl, hz⟩
          · have hrun : (Instr.takeDeferred R).run P w = .ok [] { w with heap := w.heap.setIfInBounds R (.deferred none) } := by
              simp only [Instr.takeDeferred, Sem.run_bind, run_getObj e2 (by simp), Result.andThen_ok, run_setObj e2 (by simp), Sem.run_pure]
            rw [stepG_unwind hm']
            unfold unwind
            rw [hd']
            simp [hrun]
          · refine ⟨Phi.le_refl _, by simp [AW.next_set], by simp, fun R1 hR1 hnn => ?_, fun x o R1 s1 l1 hx hr hf _ => ?_, fun x o R1 s1 l1 hx hf _ => ?_, fun x R1 s1 l1 h1 h2 => (by rw [h2] at h1; cases h1), rfl, rfl, rfl⟩
            · have : R1 ≠ R := fun he => by subst he; exact hnn b _ 0 0 hA rfl hφ
              exact Array.getElem?_setIfInBounds_ne (Ne.symm this)
            · rw [AW.get_set] at hx
              split at hx
              · cases hx
              · exact ⟨x, o, s1, l1, hx, hr, hf⟩
            · rw [AW.get_set] at hx
              split at hx
              · cases hx
              · exact ⟨x, o, s1, l1, hx, hf⟩
      · trivial
    | call hc ha =>
      rename_i f cap args cap' args'
      simp only []
      split
      · rename_i rcv hrcv
        split
        · rename_i cal hcal
          obtain ⟨fn, c, hfn, hb, hlen, rfl⟩ := enterA_ok hcal
          have hargs : VRels φ (args ++ cap) (args' ++ cap').toList := by rw [Array.toList_append]; exact ha.append hc
          have hR : RRel φ (Frame.enter P f (args' ++ cap') (if true then .deferred else .normal)) rcv ({ fr' with defers := ds' } :: cs) := by
            have hM := h.mode
            simp only at hM
            unfold rcvOf at hrcv
            split at hrcv
            · simp only [Option.some.injEq] at hrcv
              subst hrcv
              cases hM' : fr'.mode with
              | run => exact absurd hM' hm'
              | returning => rw [hM'] at hM; cases hM
              | panicking c0 =>
                rw [hM'] at hM
                cases hM with
                | panicking hcc =>
                  cases hcc with
                  | cons hpe hnil =>
                    cases hnil
                    cases hpe with
                    | mk hv => exact .avail rfl rfl hv
            · simp only [Option.some.injEq] at hrcv
              subst hrcv
              refine .none ?_
              cases hM' : fr'.mode with
              | run => exact absurd hM' hm'
              | returning => simp [tryRecover, Frame.enter]
              | panicking c0 => rw [hM'] at hM; cases hM
            · cases hrcv
          have hcalF := enterC_ok hfn hb hargs hlen (df := true) (rcv := rcv) hR
          have hco : CallOk (enterC f fn.ntmps c (args ++ cap) true rcv) ⟨hd, tmps, todo, ⟨ds, st.rcv, st.hist⟩, mode⟩ := by
            unfold rcvOf at hrcv
            split at hrcv
            · cases hrcv; exact .dpan rfl rfl rfl rfl
            · cases hrcv; exact .dret rfl rfl rfl rfl
            · cases hrcv
          refine ⟨φ, _, { fr' with defers := ds' }, w, .one (step_lone_go ?_), hcalF, frel, H, Goes.refl _ _ _ _, rfl, rfl, rfl, hz, hco⟩
          rw [stepG_unwind hm']
          unfold unwind
          rw [hd']
          have hrun : (invoke (.fn (.func f) cap') args').run P w = .ok (.enter f (args' ++ cap')) w := by
            simp only [invoke]; exact run_callFunc hN hfn hb _ _
          simp [callDeferred, hrun]
        · trivial
      · trivial
  · rename_i hst
    rw [hst] at hdf
    have hd' : fr'.defers = [] := by cases hq : fr'.defers with
      | nil => rfl
      | cons a b => rw [hq] at hdf; cases hdf
    split
    · rename_i chain
      split
      · trivial
      · rename_i hrcv
        split
        · trivial
        · rename_i hpl
          simp only [Bool.or_eq_true, not_or, Bool.not_eq_true] at hpl
          have hM := h.mode
          simp only at hM
          cases hM' : fr'.mode with
          | run => exact absurd hM' hm'
          | returning => rw [hM'] at hM; cases hM
          | panicking c0 =>
            rw [hM'] at hM
            cases hM with
            | panicking hcc =>
              obtain ⟨fn, hfn⟩ := h.known hro
              exact ⟨φ, w, ⟨hro, hpl.1, fr', c0, hcc, .refl _ _, h.fn, hM', hd', fn, by rw [h.fn]; exact hfn⟩, H, Goes.refl _ _ _ _⟩
    · split
      · rename_i hmm _ v hv
        obtain ⟨fn, v', hfn, hvv, hres⟩ := resultsA_ok H h.tmps hv
        have hret : fr'.mode = .returning := by
          have hM := h.mode
          simp only at hM
          cases hM' : fr'.mode with
          | run => exact absurd hM' hm'
          | returning => rfl
          | panicking c0 =>
            rw [hM'] at hM
            cases hM with
            | panicking hcc => exact absurd rfl (hmm _)
        refine ⟨φ, w, ?_, H, Goes.refl _ _ _ _⟩
        simp only [Out, hro]
        refine ⟨fr', v', st.rcv, cs, hvv, .same _ _, ?_, .refl _ _, h.fn, hret, hd', h.kind, fn, by rw [h.fn]; exact hfn, hres⟩
        cases st.rcv <;> rfl
      · trivial

end
end Go.Ae

/- The whole of a step; returns; the simulation. -/
namespace Go.Ae
open Go
section
variable {P : Program} {φ : Phi} {A : AW} {w : World} {cs : List Frame}

/-- is it the start of a region that draws? -/
def atDraw (fr : AF) : Bool := match fr.mode, fr.todo with
  | .run, .code (.region _ _ true) :: _ => true
  | _, _ => false

theorem stepF_ok (hN : NoNum P) {pr : Prims} (hP : PrimsOk P pr) (hX : ExtsOk P) {fr : AF} {fr' : Frame} (h : FRel P φ fr fr' cs) (H : HRel φ A w.heap) (hG : GlobOk P φ) (hz : fr.st.hist = []) (hd : atDraw fr = false) :
    StepOk P φ A.next A w fr.st.rcv fr.hd cs (lone fr' cs w) (stepF P pr fr A) := by
  obtain ⟨hd', tmps, todo, st, mode⟩ := fr
  simp only [stepF] at *
  cases mode with
  | run =>
    simp only [stepG]
    have hm := mode_run h rfl
    cases todo with
    | nil =>
      have ht : fr'.todo = [] := by
        have := h.todo rfl
        cases hq : fr'.todo with
        | nil => rfl
        | cons a b => rw [hq] at this; cases this
      refine leave_ok h H hz ?_
      simp [Go.stepG, Go.stepG.exec, hm, ht, leaveG]
      cases fr'.roundOf <;> rfl
    | cons it k =>
      simp only []
      obtain ⟨it', k', ht, hi, hk⟩ := todo_cons (h.todo rfl)
      have here : ∀ {todo1 : List AItem} {k1 : List Item} {st1 : St}, step P (lone fr' cs w) = .next (lone { fr' with todo := k1 } cs w) → AllRel (IRel φ) todo1 k1 → st1.defers = st.defers → st1.rcv = st.rcv → st1.hist = [] →
          StepOk P φ A.next A w st.rcv hd' cs (lone fr' cs w) (.go ⟨hd', tmps, todo1, st1, .run⟩ A) := fun hs ht1 hd1 hr1 hh1 =>
        go_here (fr := ⟨hd', tmps, it :: k, st, .run⟩) hs (frel_todo h ht1 hd1 hr1) H hr1 rfl hh1
      cases it with
      | code c =>
        simp only [stepItem]
        by_cases hrf : ∃ f ps a b, c = .rangeFunc f ps a b
        · obtain ⟨f, ps, a, b, rfl⟩ := hrf
          exact rangeA_ok hN h H hG hz
        · refine stepCode_ok h H hG hz (fun id ops he => ?_) (fun f ps a b he => hrf ⟨f, ps, a, b, he⟩)
          subst he
          simp [atDraw] at hd
      | inBlock id =>
        cases hi
        exact here (step_lone_go (by simp [Go.stepG, Go.stepG.exec, hm, ht])) hk rfl rfl hz
      | inLoop b =>
        cases hi
        exact here (step_lone_go (by simp [Go.stepG, Go.stepG.exec, hm, ht])) (.cons (.code _) (.cons (.inLoop _) hk)) rfl rfl hz
      | inScope b =>
        cases hi
        exact here (step_lone_go (by simp [Go.stepG, Go.stepG.exec, hm, ht])) hk rfl rfl hz
      | inReg ops l =>
        cases l with
        | nil =>
          cases hi with
          | inReg hl =>
            cases hl
            exact here (step_lone_go (by simp [Go.stepG, Go.stepG.exec, hm, ht])) hk rfl rfl rfl
        | cons p rest => exact stepOp_ok hN hP hX h H hG hz
      | inRangeFunc l => trivial
      | endRangeFunc l => exact endLoopA_ok h H hz
      | beginRound => exact beginA_ok h H hz
  | returning =>
    simp only [stepG]
    cases hro : hd'.roundOf with
    | none => exact unwindA_ok hN h (by simp) H hro hz
    | some l => trivial
  | panicking c =>
    simp only [stepG]
    cases hro : hd'.roundOf with
    | none => exact unwindA_ok hN h (by simp) H hro hz
    | some l => trivial

theorem step_leave_deferred {frE c c' : Frame} {cs : List Frame} {w : World} {v : Value} (hm : frE.mode = .returning) (hd : frE.defers = []) (hk : frE.kind = .deferred) {fn : Func} (hf : P.funcs[frE.fn]? = some fn) (hr : (results fn frE.tmps).run P w = .ok v w)
    (hc : (match c.mode with
        | .panicking ({ recovered := true, .. } :: older) =>
          match older.dropWhile (!·.goexit) with
          | [] => { c with mode := .returning }
          | rest => { c with mode := .panicking rest }
        | _ => c) = c') : step P (lone frE (c :: cs) w) = .next (lone c' cs w) := by
  subst hc
  exact step_lone_go (by simp [Go.stepG, unwind, doReturn, hm, hd, hk, hf, hr]; rfl)

/-- how a frame goes on behind a call, at both -/
theorem resume_ok {cal fr fr2 : AF} {fr' : Frame} {m : Machine} {r : Fin} {w1 : World} {A1 : AW} (ho : Out P φ cal.hd cal.st.rcv (fr' :: cs) m w1 r) (hf : FRel P φ fr fr' cs)
    (hz : fr.st.hist = []) (hr : resume fr r A1 = some fr2) (hc : CallOk cal fr) :
    ∃ fr2', Steps P m (lone fr2' cs w1) ∧ FRel P φ fr2 fr2' cs ∧ fr2.st.hist = [] ∧ fr2.hd = fr.hd ∧ fr2.st.rcv = fr.st.rcv := by
  obtain ⟨hd, tmps, todo, st, mode⟩ := fr
  have hkd : fr'.kind = .normal ∨ fr'.kind = .deferred := by rw [hf.kind]; exact kindOf_or _
  cases hc with
  | norm h1 h2 h3 =>
    simp only at h1
    subst h1
    have hkc : kindOf cal.hd = .normal := by unfold kindOf; rw [h2]; rfl
    rw [h3] at ho
    cases r with
    | panic chain =>
      simp only [resume] at hr
      simp only at hz
      rw [hz] at hr
      simp only [Option.some.injEq] at hr
      subst hr
      obtain ⟨_, _, frE, chain', e1, e2, e3, e4, e5, fn, e6⟩ := ho
      have hrs : fr'.raise chain' = { fr' with mode := .panicking chain' } := by simp [Frame.raise, mode_run hf rfl]
      refine ⟨fr'.raise chain', Steps.trans e2 (.one (step_leave_panicked ⟨e4, e5, fn, e6⟩)), ?_, hz, rfl, rfl⟩
      rw [hrs]
      exact ⟨hf.fn, hf.tmps, fun hx => (by cases hx), hf.defers, .panicking e1, hf.kind, hf.round, hf.rcv.kind rfl hkd, hf.known, hf.plain⟩
    | ret v taken =>
      simp only [resume, force_eq] at hr
      simp only at hz
      have hdid : St.did st A1 = st := histZero st hz A1
      rw [hdid] at hr
      obtain ⟨v', hv, hsteps⟩ : ∃ v', VRel φ v v' ∧ Steps P m (lone (fr'.finish v') cs w1) := by
        simp only [Out] at ho
        cases hro : cal.hd.roundOf with
        | none =>
          rw [hro] at ho
          obtain ⟨frE, v', rcvE, cs', e1, e2, e3, e4, e5, e6, e7, e8, fn, e9, e10⟩ := ho
          cases e2
          exact ⟨v', e1, Steps.trans e4 (.one (step_leave_returned ⟨e6, e7, by rw [e8, hkc], fn, e9, e10⟩))⟩
        | some l =>
          rw [hro] at ho
          obtain ⟨_, v', e1, e2⟩ := ho
          exact ⟨v', e1, e2 _ _ rfl⟩
      unfold finishA at hr
      split at hr
      · cases hr
      · rename_i it k
        split at hr
        · rename_i ops l
          split at hr
          · rename_i p rest
            obtain ⟨i, o⟩ := p
            cases hdst : dstOk hd.n o.dst with
            | false => rw [hdst] at hr; cases hr
            | true =>
              rw [hdst] at hr
              simp only [cond_true, Option.some.injEq] at hr
              subst hr
              exact ⟨fr'.finish v', hsteps, frel_finish hf (Phi.le_refl _) hdst hv rfl (rrel_finish hf.rcv hkd v'), hz, rfl, rfl⟩
          · cases hr
        · rename_i l
          simp only [Option.some.injEq] at hr
          subst hr
          obtain ⟨it', k', ht, hi, hk⟩ := todo_cons (hf.todo rfl)
          cases hi
          rename_i R hφ
          have hfin : fr'.finish v' = { fr' with todo := .endRangeFunc R :: k' } := by simp [Frame.finish, ht]
          refine ⟨fr'.finish v', hsteps, ?_, hz, rfl, rfl⟩
          rw [hfin]
          exact frel_todo hf (.cons (.endRangeFunc hφ) hk) rfl rfl
        · cases hr
  | dret h1 h2 h3 h4 =>
    simp only at h1
    subst h1
    have hkc : kindOf cal.hd = .deferred := by unfold kindOf; rw [h2]; rfl
    rw [h3] at ho
    have hfm : fr'.mode = .returning := by have := hf.mode; simp only at this; generalize fr'.mode = q at this; cases this; rfl
    simp only [resume] at hr
    split at hr
    · simp only [Option.some.injEq] at hr
      subst hr
      simp only [Out, h4] at ho
      obtain ⟨frE, v', rcvE, cs', e1, e2, e3, e4, e5, e6, e7, e8, fn, e9, e10⟩ := ho
      cases e2
      exact ⟨fr', Steps.trans e4 (.one (step_leave_deferred e6 e7 (by rw [e8, hkc]) e9 e10 (by rw [hfm]))), hf, hz, rfl, rfl⟩
    · cases hr
  | dpan h1 h2 h3 h4 =>
    rename_i v
    simp only at h1
    subst h1
    have hkc : kindOf cal.hd = .deferred := by unfold kindOf; rw [h2]; rfl
    rw [h3] at ho
    simp only [resume] at hr
    split at hr
    · rename_i v0
      simp only [Option.some.injEq] at hr
      subst hr
      simp only [Out, h4] at ho
      obtain ⟨frE, v', rcvE, cs', e1, e2, e3, e4, e5, e6, e7, e8, fn, e9, e10⟩ := ho
      cases e2 with
      | same => cases e3
      | took hmm =>
        refine ⟨{ fr' with mode := .returning }, Steps.trans e4 (.one (step_leave_deferred e6 e7 (by rw [e8, hkc]) e9 e10 rfl)), ?_, hz, rfl, rfl⟩
        exact ⟨hf.fn, hf.tmps, fun hx => (by cases hx), hf.defers, .returning, hf.kind, hf.round, hf.rcv.kind rfl hkd, hf.known, hf.plain⟩
    · simp only [Option.some.injEq] at hr
      subst hr
      simp only [Out, h4] at ho
      obtain ⟨frE, v', rcvE, cs', e1, e2, e3, e4, e5, e6, e7, e8, fn, e9, e10⟩ := ho
      cases e2 with
      | took hmm => cases e3
      | same =>
        have hM := hf.mode
        simp only at hM
        refine ⟨fr', Steps.trans e4 (.one (step_leave_deferred e6 e7 (by rw [e8, hkc]) e9 e10 ?_)), hf, hz, rfl, rfl⟩
        cases hM' : fr'.mode with
        | run => rfl
        | returning => rfl
        | panicking c0 =>
          rw [hM'] at hM
          cases hM with
          | panicking hcc =>
            cases hcc with
            | cons hpe hnil => cases hnil; cases hpe; rfl
    · cases hr

end
end Go.Ae

/- The simulation, but for regions that draw. -/
namespace Go.Ae
open Go
section
variable {P : Program} {φ : Phi} {A : AW} {w : World} {cs : List Frame}

theorem took_same {fr : AF} {fr' : Frame} {r : ARcv} {cs1 : List Frame} (h : FRel P φ fr fr' cs) (hd : fr.hd.deferred = false) (t : Took fr.st.rcv r cs cs1) : cs1 = cs ∧ r = fr.st.rcv := by
  have hk : fr'.kind = .normal := by rw [h.kind]; unfold kindOf; rw [hd]; rfl
  have hr := h.rcv
  generalize fr.st.rcv = q at t hr
  cases t with
  | same => exact ⟨rfl, rfl⟩
  | took hm =>
    cases hr with
    | avail hkk _ _ => rw [hk] at hkk; cases hkk

theorem Out.of_steps {φ' : Phi} {fr : AF} {fr' : Frame} {rcv1 : ARcv} {cs1 : List Frame} {m m1 : Machine} {w' : World} {r : Fin} (h : FRel P φ fr fr' cs) (hs : Steps P m m1) (t : Took fr.st.rcv rcv1 cs cs1) (ho : Out P φ' fr.hd rcv1 cs1 m1 w' r) :
    Out P φ' fr.hd fr.st.rcv cs m w' r := by
  cases r with
  | ret v taken =>
    simp only [Out] at ho ⊢
    cases hro : fr.hd.roundOf with
    | none =>
      rw [hro] at ho
      obtain ⟨frE, v', rcvE, cs', e1, e2, e3, e4, e5⟩ := ho
      exact ⟨frE, v', rcvE, cs', e1, t.trans e2, e3, hs.trans e4, e5⟩
    | some l =>
      rw [hro] at ho
      obtain ⟨e0, v', e1, e2⟩ := ho
      obtain ⟨rfl, _⟩ := took_same h (h.plain (by rw [hro]; simp)) t
      exact ⟨e0, v', e1, fun c rest hc => hs.trans (e2 c rest hc)⟩
  | panic chain =>
    obtain ⟨e0, e1, frE, chain', e2, e3, e4⟩ := ho
    obtain ⟨rfl, _⟩ := took_same h e1 t
    exact ⟨e0, e1, frE, chain', e2, hs.trans e3, e4⟩

/-- THE SIMULATION, of so much fuel -/
def Sim (P : Program) (pr : Prims) (n : Nat) : Prop := ∀ fr A r A', run P pr n fr A = some (r, A') → ∀ φ fr' cs w, FRel P φ fr fr' cs → HRel φ A w.heap → GlobOk P φ → fr.st.hist = [] →
  ∃ φ' w', Out P φ' fr.hd fr.st.rcv cs (lone fr' cs w) w' r ∧ HRel φ' A' w'.heap ∧ Goes A.next φ A w φ' A' w'

/-- a region that draws is passed -/
def DrawOk (P : Program) (pr : Prims) : Prop := ∀ n, (∀ m, m < n → Sim P pr m) → ∀ fr A r A', atDraw fr = true → run P pr n fr A = some (r, A') → ∀ φ fr' cs w, FRel P φ fr fr' cs → HRel φ A w.heap → GlobOk P φ → fr.st.hist = [] →
  ∃ k fr1 A1, k < n ∧ run P pr k fr1 A1 = some (r, A') ∧ GoOk P φ A.next A w fr.st.rcv fr.hd cs (lone fr' cs w) fr1 A1

theorem run_succ {pr : Prims} (n : Nat) (fr : AF) (A : AW) : run P pr (n + 1) fr A = runK (run P pr n) (stepF P pr fr A) := rfl

/-- going on behind a step -/
theorem sim_go {pr : Prims} {k : Nat} (hk : Sim P pr k) {fr fr1 : AF} {fr' : Frame} {A1 A' : AW} {r : Fin} (h : FRel P φ fr fr' cs) (hG : GlobOk P φ) (hgo : GoOk P φ A.next A w fr.st.rcv fr.hd cs (lone fr' cs w) fr1 A1) (hr : run P pr k fr1 A1 = some (r, A')) :
    ∃ φ' w', Out P φ' fr.hd fr.st.rcv cs (lone fr' cs w) w' r ∧ HRel φ' A' w'.heap ∧ Goes A.next φ A w φ' A' w' := by
  obtain ⟨φ1, fr1', cs1, w1, g1, g2, g3, g4, g5, g6, g7⟩ := hgo
  obtain ⟨φ', w', o1, o2, o3⟩ := hk fr1 A1 r A' hr φ1 fr1' cs1 w1 g2 g3 (hG.mono g4.le) g7
  refine ⟨φ', w', Out.of_steps h g1 g5 (by rw [← g6]; exact o1), o2, g4.trans (o3.weaken g4.next)⟩

theorem sim (hN : NoNum P) {pr : Prims} (hP : PrimsOk P pr) (hX : ExtsOk P) (hD : DrawOk P pr) : ∀ n, Sim P pr n := by
  intro n
  induction n using Nat.strongRecOn with
  | ind n ih =>
  intro fr A r A' hr φ fr' cs w h H hG hz
  cases hd : atDraw fr with
  | true =>
    obtain ⟨k, fr1, A1, hk, hr1, hgo⟩ := hD n ih fr A r A' hd hr φ fr' cs w h H hG hz
    exact sim_go (ih k hk) h hG hgo hr1
  | false =>
    cases n with
    | zero => cases hr
    | succ n =>
      rw [run_succ] at hr
      have hs := stepF_ok (A := A) (w := w) hN hP hX h H hG hz hd
      cases hst : stepF P pr fr A with
      | bad => rw [hst] at hr; cases hr
      | go fr1 A1 =>
        rw [hst] at hr hs
        exact sim_go (ih n (by omega)) h hG hs hr
      | pick m k =>
        rw [hst] at hr hs
        simp only [runK] at hr
        cases hm : Nat.beq m 1 with
        | false => rw [hm] at hr; cases hr
        | true =>
          rw [hm] at hr
          have hm1 := Nat.eq_of_beq_eq_true hm
          subst hm1
          obtain ⟨i, hi, hgo⟩ := hs
          have hi0 : i = 0 := by omega
          subst hi0
          exact sim_go (ih n (by omega)) h hG hgo hr
      | fin r1 A1 =>
        rw [hst] at hr hs
        simp only [runK, Option.some.injEq, Prod.mk.injEq] at hr
        obtain ⟨rfl, rfl⟩ := hr
        obtain ⟨φ1, w1, o1, o2, o3⟩ := hs
        exact ⟨φ1, w1, o1, o2, o3⟩
      | call cal fr1 A1 =>
        rw [hst] at hr hs
        simp only [runK] at hr
        split at hr
        · rename_i r1 A2 hcal
          split at hr
          · rename_i fr2 hres
            obtain ⟨φ1, cal', fr1', w1, s1, s2, s3, s4, s5, s6, s7, s8, s9, s10⟩ := hs
            obtain ⟨φ2, w2, o1, o2, o3⟩ := ih n (by omega) cal A1 r1 A2 hcal φ1 cal' (fr1' :: cs) w1 s2 s4 (hG.mono s5.le) s8
            obtain ⟨fr2', t1, t2, t3, t4, t5⟩ := resume_ok o1 (s3.mono o3.le) s9 hres s10
            have G2 := s5.trans (o3.weaken s5.next)
            refine sim_go (ih n (by omega)) h hG (A1 := A2) (fr1 := fr2) ⟨φ2, fr2', cs, w2, s1.trans t1, t2, o2, G2, ?_, by rw [t4, s7], t3⟩ hr
            rw [t5, s6]
            exact .same _ _
          · cases hr
        · cases hr

end
end Go.Ae

/- Out of the simulation: the model's calls. -/
namespace Go.Ae
open Go

/-- what a call of the model answers, when the evaluator answers so -/
def Answers (φ : Phi) (A : AW) (w : World) (v : AV) (A' : AW) : Ending → World → Prop
  | .returned v', w' => ∃ φ', VRel φ' v v' ∧ HRel φ' A' w'.heap ∧ Goes A.next φ A w φ' A' w'
  | _, _ => False

theorem calls_of_run {P : Program} {pr : Prims} (hN : NoNum P) (hP : PrimsOk P pr) (hX : ExtsOk P) (hD : DrawOk P pr) {φ : Phi} {A A' : AW} {w : World} {f : FuncId} {args : List AV} {args' : Array Value} {cal : AF} {n : Nat} {v : AV} {tk : Bool}
    (hc : enterA P f args false .none = some cal) (hr : run P pr n cal A = some (.ret v tk, A')) (ha : VRels φ args args'.toList) (H : HRel φ A w.heap) (hG : GlobOk P φ) : Calls P f args' w (Answers φ A w v A') := by
  intro cs
  obtain ⟨fn, c, hf, hb, hlen, rfl⟩ := enterA_ok hc
  have hF := enterC_ok (cs := cs) hf hb ha hlen (df := false) (rcv := .none) (rrel_normal rfl _)
  obtain ⟨φ', w', o1, o2, o3⟩ := sim hN hP hX hD n _ A _ A' hr φ _ cs w hF H hG rfl
  obtain ⟨frE, v', rcvE, cs', e1, e2, e3, e4, e5, e6, e7, e8, fn', e9, e10⟩ := o1
  cases e2
  exact ⟨.returned v', w', frE, ⟨φ', e1, o2, o3⟩, e4, e5, e6, e7, e8, fn', e9, e10⟩

end Go.Ae

/- Regions that draw their order: what comes before what. -/
namespace Go.Ae
open Go

def befOne (acc : Array Nat) (o : Oper) : Nat := o.after.foldl (fun s e => if Region.binds .any e then s ||| 2 ^ e.on ||| acc.getD e.on 0 else s) 0

theorem befOne_bit (acc : Array Nat) (o : Oper) (i : Nat) (h : (befOne acc o).testBit i = true) : ∃ e ∈ o.after, Region.binds .any e = true ∧ (i = e.on ∨ (acc.getD e.on 0).testBit i = true) := by
  unfold befOne at h
  rw [← Array.foldl_toList] at h
  have key : ∀ (l : List Edge) (s : Nat), (l.foldl (fun s e => if Region.binds .any e then s ||| 2 ^ e.on ||| acc.getD e.on 0 else s) s).testBit i = true →
      s.testBit i = true ∨ ∃ e ∈ l, Region.binds .any e = true ∧ (i = e.on ∨ (acc.getD e.on 0).testBit i = true) := by
    intro l
    induction l with
    | nil => intro s h; exact .inl h
    | cons e l ih =>
      intro s h
      simp only [List.foldl_cons] at h
      rcases ih _ h with h | ⟨e', h1, h2⟩
      · by_cases hb : Region.binds .any e = true
        · rw [if_pos hb] at h
          simp only [Nat.testBit_or, Bool.or_eq_true, Nat.testBit_two_pow, decide_eq_true_eq] at h
          rcases h with (h | h) | h
          · exact .inl h
          · exact .inr ⟨e, List.mem_cons_self .., hb, .inl h.symm⟩
          · exact .inr ⟨e, List.mem_cons_self .., hb, .inr h⟩
        · rw [if_neg hb] at h; exact .inl h
      · exact .inr ⟨e', List.mem_cons_of_mem _ h1, h2⟩
  rcases key _ _ h with h | ⟨e, h1, h2⟩
  · simp at h
  · exact ⟨e, by simpa using h1, h2⟩

/-- what must lie before an operation lies behind one of its edges -/
theorem before_bit (ops : Array Oper) (j i : Nat) (h : ((Region.before ops).getD j 0).testBit i = true) : ∃ o, ops[j]? = some o ∧ ∃ e ∈ o.after, Region.binds .any e = true ∧ (i = e.on ∨ ((Region.before ops).getD e.on 0).testBit i = true) := by
  have hdef : Region.before ops = ops.toList.foldl (fun acc o => acc.push (befOne acc o)) #[] := by
    unfold Region.before befOne
    rw [← Array.foldl_toList]
  have key : ∀ (l : List Oper) (acc : Array Nat) (m : Nat), (l.foldl (fun acc o => acc.push (befOne acc o)) acc).size = acc.size + l.length ∧
      (∀ m, m < acc.size → (l.foldl (fun acc o => acc.push (befOne acc o)) acc).getD m 0 = acc.getD m 0) ∧
      (∀ m o, l[m]? = some o → ∃ acc' : Array Nat, (∀ x, acc'.getD x 0 = 0 ∨ acc'.getD x 0 = (l.foldl (fun acc o => acc.push (befOne acc o)) acc).getD x 0) ∧ (l.foldl (fun acc o => acc.push (befOne acc o)) acc).getD (acc.size + m) 0 = befOne acc' o) := by
    intro l
    induction l with
    | nil => intro acc m; exact ⟨rfl, fun m h => rfl, fun m o h => by simp at h⟩
    | cons o l ih =>
      intro acc m
      obtain ⟨h1, h2, h3⟩ := ih (acc.push (befOne acc o)) 0
      simp only [List.foldl_cons]
      refine ⟨by rw [h1]; simp; omega, fun m hm => ?_, fun m o' hm => ?_⟩
      · rw [h2 m (by simp; omega)]
        rw [Array.getD_eq_getD_getElem?, Array.getD_eq_getD_getElem?, Array.getElem?_push, if_neg (by omega)]
      · cases m with
        | zero =>
          simp only [List.getElem?_cons_zero, Option.some.injEq] at hm
          subst hm
          refine ⟨acc, fun x => ?_, ?_⟩
          · by_cases hx : x < acc.size
            · right
              rw [h2 x (by simp; omega), Array.getD_eq_getD_getElem?, Array.getD_eq_getD_getElem?, Array.getElem?_push, if_neg (by omega)]
            · left
              rw [Array.getD_eq_getD_getElem?, Array.getElem?_eq_none (by omega)]; rfl
          · rw [Nat.add_zero, h2 acc.size (by simp), Array.getD_eq_getD_getElem?, Array.getElem?_push_size]; rfl
        | succ m =>
          obtain ⟨acc', a1, a2⟩ := h3 m o' (by simpa using hm)
          refine ⟨acc', a1, ?_⟩
          rw [← a2]
          congr 1
          simp; omega
  obtain ⟨h1, _, h3⟩ := key ops.toList #[] 0
  rw [← hdef] at h1 h3
  cases ho : ops[j]? with
  | none =>
    have hj : ops.size ≤ j := by simpa using ho
    rw [Array.getD_eq_getD_getElem?, Array.getElem?_eq_none (by rw [h1]; simpa using hj)] at h
    simp at h
  | some o =>
    refine ⟨o, rfl, ?_⟩
    obtain ⟨acc', a1, a2⟩ := h3 j o (by simpa using ho)
    simp only [List.size_toArray, List.length_nil, Nat.zero_add] at a2
    rw [a2] at h
    obtain ⟨e, e1, e2, e3⟩ := befOne_bit acc' o i h
    refine ⟨e, e1, e2, e3.imp id fun h => ?_⟩
    rcases a1 e.on with hx | hx
    · rw [hx] at h; simp at h
    · rw [← hx]; exact h

/-- listed: with every operation whatever lies before it -/
def Closed (ops : Array Oper) (listed : Array Bool) : Prop := ∀ j i, listed.getD j false = true → ((Region.before ops).getD j 0).testBit i = true → listed.getD i false = true

theorem ready_before {ops : Array Oper} {listed : Array Bool} (hc : Closed ops listed) {j : Nat} (hj : j ∈ Region.ready .any ops listed) : ∀ i, ((Region.before ops).getD j 0).testBit i = true → listed.getD i false = true := by
  intro i hi
  obtain ⟨_, o, ho, hall⟩ := mem_ready.1 hj
  obtain ⟨o', ho', e, e1, e2, e3⟩ := before_bit ops j i hi
  rw [ho] at ho'
  cases ho'
  have hl := hall e e1 e2
  rcases e3 with rfl | h
  · exact hl
  · exact hc e.on i hl h

theorem closed_set {ops : Array Oper} {listed : Array Bool} (hc : Closed ops listed) {j : Nat} (hj : j ∈ Region.ready .any ops listed) : Closed ops (listed.setIfInBounds j true) := by
  intro a i ha hi
  by_cases haj : j = a
  · subst haj
    exact getD_set_true (ready_before hc hj i hi)
  · rw [getD_set_ne false haj] at ha
    exact getD_set_true (hc a i ha hi)

end Go.Ae

/- What an operation comes to depends on the temporaries that it names alone. -/
namespace Go.Ae
open Go

theorem opd_congr {P : Program} {t t' : Tm} {x : Operand} (h : ∀ i, x = .tmp i → Tm.get t i = Tm.get t' i) : opd P t x = opd P t' x := by
  cases x with
  | tmp i => exact h i rfl
  | _ => rfl
theorem opds_congr {P : Program} {t t' : Tm} : ∀ {l : List Operand}, (∀ x ∈ l, opd P t x = opd P t' x) → opds P t l = opds P t' l
  | [], _ => rfl
  | x :: l, h => by simp only [opds]; rw [h x (List.mem_cons_self ..), opds_congr fun y hy => h y (List.mem_cons_of_mem _ hy)]
theorem parts_congr {P : Program} {t t' : Tm} : ∀ {l : List (Nat × Operand)}, (∀ x ∈ l, opd P t x.2 = opd P t' x.2) → parts P t l = parts P t' l
  | [], _ => rfl
  | (i, x) :: l, h => by simp only [parts]; rw [h (i, x) (List.mem_cons_self ..), parts_congr fun y hy => h y (List.mem_cons_of_mem _ hy)]

theorem opRes_congr {P : Program} {t t' : Tm} {A : AW} {op : Op} (h : ∀ x ∈ op.operands, opd P t x = opd P t' x) : opRes P t A op = opRes P t' A op := by
  cases op <;> simp only [Op.operands] at h <;> simp only [opRes]
  case build ty ps => rw [parts_congr fun x hx => h x.2 (by simp; exact ⟨x.1, by simpa using hx⟩)]
  case buildSlice ty n ps => rw [parts_congr fun x hx => h x.2 (by simp; exact ⟨x.1, by simpa using hx⟩)]
  case makeFunc fn first cap =>
    rw [opds_congr (l := first.toList) fun x hx => h x (by simp at hx ⊢; exact .inl hx), opds_congr (l := cap.toList) fun x hx => h x (by simp at hx ⊢; exact .inr hx)]
  case makeMap ty r => cases r <;> simp_all
  case slice ty x lo hi mx => cases lo <;> cases hi <;> cases mx <;> simp_all
  case call c =>
    unfold hCall
    have ha : opds P t c.args.toList = opds P t' c.args.toList := opds_congr fun x hx => h x (by simp [Call.operands]; cases c.callee <;> simp_all)
    rw [ha]
    cases hc : c.callee with
    | value f => simp only []; rw [h f (by simp [Call.operands, hc])]
    | invoke r n => simp only []; rw [h r (by simp [Call.operands, hc])]
    | builtin b => rfl
  case defer c =>
    have ha : opds P t c.args.toList = opds P t' c.args.toList := opds_congr fun x hx => h x (by simp [Call.operands]; cases c.callee <;> simp_all)
    rw [ha]
    cases hc : c.callee with
    | value f => simp only []; rw [h f (by simp [Call.operands, hc])]
    | _ => rfl
  all_goals (first | rfl | (simp_all; done))

end Go.Ae
