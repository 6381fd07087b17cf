import Derived.Test.YtmoblhikociccaaGreatDoorWit
import Derived.Test.YtmoblhikociccaaGreatDoorC23xZ
import Derived.Test.YtmoblhikociccaaGreatDoorAeC
import Derived.Handed
import Derived.ChangeMaps5
namespace Go.Proofs.YtmoblhikociccaaGreatDoor
open Go Go.Ae Go.ChangeShapes Go.WideShapes Go.ChangeAt Go.WideMaps Go.WideElems Go.RowKit

def phi0 : Phi := fun b => if b ≤ 7 then some (b, 0, if b = 1 then 64 else if b = 0 then 1 else 0) else Option.none

theorem tab64_len : tab64.length = 64 := by decide
theorem bs_len : ∀ l : List Nat, (bs l).length = l.length
  | [] => rfl
  | _ :: l => by show (vB _ :: bs l).length = _; simp [bs_len l]
theorem bs_rel {φ : Phi} : ∀ l : List Nat, VRels φ (bs l) (l.map fun x => Value.int .u8 (Int.ofNat x))
  | [] => .nil
  | _ :: l => .cons (.int _ _) (bs_rel l)

/-- where a call of the statement begins, at both -/
theorem start_rel {W : World} (hs : W.ShapedOpen Tryz.prog) (hl : laidMetH Tryz.prog laidNil W) : HRel phi0 (setAll c12489.pre ⟨.nil, c12489.next⟩) W.heap ∧ GlobOk Tryz.prog phi0 := by
  have hsz := size_of_shape hs
  obtain ⟨⟨t1, f1, h1⟩, c, t0, f0, h0, hc0⟩ := of_laid hl
  have hmem : ∀ b o, (setAll c12489.pre ⟨.nil, c12489.next⟩).get b = some o → (b, o) = (0, .cells 1073741824 [.iface 316 (.agg [vP 7 70])] true Option.none) ∨ (b, o) = (1, .cells 1073741824 (bs tab64) true Option.none) := by
    intro b o hb
    rcases setAll_get hb with ⟨p, hp, rfl⟩ | h
    · have hp' : (b, o) ∈ [(0, AObj.cells 1073741824 [.iface 316 (.agg [vP 7 70])] true Option.none), (1, .cells 1073741824 (bs tab64) true Option.none)] := hp
      simpa using hp'
    · cases h
  constructor
  · refine ⟨fun b o hb => ?_, fun b R s l hb => ?_, fun b o hb => ?_, fun b b' o o' R s l s' l' hne hb hb' hf hf' => ?_⟩
    · rw [setAll_next]
      show b < 8
      rcases hmem b o hb with h | h <;> cases h <;> decide
    · rw [setAll_next]
      show b < 8 ∧ _
      unfold phi0 at hb
      split at hb
      · cases hb; omega
      · cases hb
    · rcases hmem b o hb with h | h
      · cases h
        obtain ⟨lo, hi⟩ := f0
        refine ⟨0, 0, 1, _, rfl, h0, .cells (.inl rfl) ?_ (Nat.le_refl _) ?_ ?_ (fun h => by cases h)⟩
        · have := (Array.getElem?_eq_some_iff.1 hc0).1; omega
        · have e : (c.toList.drop 0).take 1 = [.iface 316 (.agg #[.pointer (some ⟨7, 70, Option.none⟩)])] := by
            rw [← Array.getElem?_toList] at hc0
            cases hcl : c.toList with
            | nil => rw [hcl] at hc0; cases hc0
            | cons a r => rw [hcl] at hc0; simp at hc0; simp [hc0]
          show VRels phi0 _ ((c.toList.drop 0).take 1)
          rw [e]
          exact .cons (.iface (.agg (.cons (VRel.ptr (R := 7) (s := 0) (l := 0) (off := 70) rfl) .nil) (by intro v hv; simp at hv; subst hv; rfl))) .nil
        · have e : (c.toList.drop 0).take 1 = [.iface 316 (.agg #[.pointer (some ⟨7, 70, Option.none⟩)])] := by
            rw [← Array.getElem?_toList] at hc0
            cases hcl : c.toList with
            | nil => rw [hcl] at hc0; cases hc0
            | cons a r => rw [hcl] at hc0; simp at hc0; simp [hc0]
          intro v hv
          have hv' : v ∈ (c.toList.drop 0).take 1 := hv
          rw [e] at hv'
          simp at hv'
          subst hv'
          rfl
      · cases h
        obtain ⟨lo, hi⟩ := f1
        have hlen : (bs tab64).length = 64 := by rw [bs_len, tab64_len]
        refine ⟨1, 0, 64, _, rfl, h1, .cells (.inl rfl) ?_ (by rw [hlen]; exact Nat.le_refl _) ?_ ?_ (fun h => by cases h)⟩
        · simp [tab64_len]
        · rw [hlen]
          simp only [List.drop_zero]
          rw [List.take_of_length_le (by simp [tab64_len])]
          exact bs_rel _
        · intro v hv
          have := List.mem_of_mem_drop (List.mem_of_mem_take hv)
          simp only [List.mem_map] at this
          obtain ⟨x, _, rfl⟩ := this
          rfl
    · exfalso
      rcases hmem b o hb with h | h <;> rcases hmem b' o' hb' with h' | h' <;> cases h <;> cases h' <;> first | exact hne rfl | (cases hf; cases hf')
  · intro g hg
    rw [nGlob] at hg
    exact ⟨_, by unfold phi0; rw [if_pos hg]⟩

theorem start_ro : ∀ b o, (setAll c12489.pre ⟨.nil, c12489.next⟩).get b = some o → o.ro = true := by
  intro b o hb
  rcases setAll_get hb with ⟨p, hp, rfl⟩ | h
  · have hp' : (b, o) ∈ [(0, AObj.cells 1073741824 [.iface 316 (.agg [vP 7 70])] true Option.none), (1, .cells 1073741824 (bs tab64) true Option.none)] := hp
    simp only [List.mem_cons, List.not_mem_nil, or_false] at hp'
    rcases hp' with h | h <;> cases h <;> rfl
  · cases h

/-- THE WALK: whatever comes in, it returns true, and what was there is as it was. -/
theorem nil_calls {W : World} (hs : W.ShapedOpen Tryz.prog) (hl : laidMetH Tryz.prog laidNil W) (a b c : Value) :
    Calls Tryz.prog 3 #[a, b, c] W fun e W' => e = .returned (.bool true) ∧ W.keptBut W' (fun _ => False) := by
  obtain ⟨H, hG⟩ := start_rel hs hl
  refine (calls_of_ok ground (oracle_cons k12454 oracle_nil) c12489_ok (φ := phi0) (w := W) (args' := #[a, b, c]) (.cons (.any _) (.cons (.any _) (.cons (.any _) .nil))) H hG).mono fun e W' h => ?_
  obtain ⟨v', φ', A', rfl, hv, _, G⟩ := h
  have hv' : VRel φ' (.bool true) v' := hv
  cases hv'
  exact ⟨rfl, kept_of_goes G start_ro _⟩

theorem u9 : Tryz.prog.underlying 9 = some .string := by kernel_rfl
theorem u4 : Tryz.prog.underlying 4 = some .bool := by kernel_rfl

set_option maxRecDepth 100000 in
theorem nil_lifted (os : Os) (started : os.Started) (H : Type) (enc : TypeId × Value → H) :
    ReturnsInHanded {} Tryz.checked os 3 .any (fun w args => (Rows.serviceNilSpec.pre enc Tryz.prog Tryz.f3 [] false w args ∧ laidMetH Tryz.prog laidNil w) ∧ sizedMet enc Tryz.prog Tryz.f3 (OpenSpec.ofChange Rows.serviceNilSpec) false w args)
      (Rows.serviceNilSpec.post enc Tryz.prog Tryz.f3 false true false false) := by
  refine returnsInHanded_of_calls (C := Tryz.checked) own started (by kernel_rfl)
    (ChangeSpec.witness_at (enc := enc) (C := Tryz.checked) (os := os) (X := fun w _ => laidMetH Tryz.prog laidNil w) false (laidWorld os) nilArgs 8 (wh os) (wv os) (wr os) (wok os) (wpre os H enc) (wsz os H enc) (wl os nilArgs)) ?_
  intro w tape i _ hsh _ hok hpre _
  obtain ⟨_, _, _, fn', hfn', _, _, _, _, hval0⟩ := hok
  have e : fn' = Tryz.f3 := Option.some.inj (hfn'.symm.trans Tryz.func3)
  subst e
  obtain ⟨⟨⟨ds, gs, before, hw0, hc⟩, hx0⟩, hz⟩ := hpre
  have hW := DataW.Whole.of_heap (w' := w.forCall tape i) (by rfl) hw0
  have hx : laidMetH Tryz.prog laidNil (w.forCall tape i) := hx0.of_heap (by rfl)
  generalize hargs : i.args = args at *
  have hval : ∀ (j : Nat) t v, Tryz.f3.params[j]? = some t → args[j]? = some v → Value.okWide Tryz.prog (w.forCall tape i) .any w.heap.size t v := hval0
  have hW' := hW
  obtain ⟨p, q, hA0, hV, rfl, hfz, hnd⟩ := hW
  have hA : DataW.TrodAll enc Tryz.prog (w.forCall tape i) 0 (fun _ => true) true Tryz.f3.params.toList args.toList ds p := hA0
  rw [Tryz.params3] at hA hval
  obtain ⟨v0, v1, v2, d0, d1, d2, p0, p1, p2, rfl, rfl, rfl, h0, h1, h2⟩ := trodAll_three hA
  obtain ⟨rfl, rfl⟩ := trodVars_none hV
  obtain ⟨s0, rfl, rfl, rfl, hs0⟩ := ChangeMaps.open_string u9 (hval 0 9 v0 rfl rfl) h0
  obtain ⟨s1, rfl, rfl, rfl, hs1⟩ := ChangeMaps.open_string u9 (hval 1 9 v1 rfl rfl) h1
  obtain ⟨b, rfl, rfl, rfl⟩ := open_bool u4 (hval 2 4 v2 rfl rfl) h2
  refine (nil_calls hsh hx _ _ _).mono fun e W' h => ?_
  obtain ⟨rfl, hk⟩ := h
  refine ChangeSpec.post_blind ?_
  refine ⟨_, _, _, [], [], [], hW', ?_, ?_, ?_, World.keptBut_mono (fun _ hp => hp.elim) hk, fun h => by cases h⟩
  · exact trodAll_mk1 (shut_bool u4 _)
  · exact trodAll_mk3 (ChangeMaps.shut_string u9 hs0) (ChangeMaps.shut_string u9 hs1) (shut_bool u4 _)
  · rfl

end Go.Proofs.YtmoblhikociccaaGreatDoor
