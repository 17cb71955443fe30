/- the given row of MsgidParses: the law answers true at every input, and every argument reads behind the call as it read before -/
import Derived.Test.YtfgadmiencgmgaaL2
import Derived.Test.YtfgadmiencgmgaaRowKit
namespace Go.Proofs.Ytfgadmiencgmgaa.msgidParses
open Go.ChangeShapes Go.WideShapes Go.ChangeAt Go.RowKit XK
set_option linter.unusedVariables false
theorem own : ownKnob Try.prog.godebug = none := by kernel_rfl
theorem laidOut : laidOutB Try.prog = true := by kernel_rfl
theorem rr_str : Try.prog.readableRec 9 = true := by kernel_rfl
theorem rl_str : 9 < Try.prog.types.size := of_decide_eq_true (by kernel_rfl)
set_option maxRecDepth 100000 in
theorem lifted (os : Os) (started : os.Started) (H : Type) (enc : TypeId × Value → H) :
    ReturnsInHanded {} Try.checked os 4 .any (Rows.msgidParsesSpec.pre6 enc Try.prog Try.f4 Rows.msgidParsesRow.domain false) (Rows.msgidParsesSpec.post enc Try.prog Try.f4 false true false false) := by
  refine returnsInHanded_of_change (C := Try.checked) own started (by kernel_rfl) Try.func4
    (ChangeSpec.witness6 (enc := enc) (C := Try.checked) false ⟨#[], #[.string ByteArray.empty], []⟩ 40 (by kernel_rfl) (by kernel_rfl) (by kernel_rfl) (by kernel_rfl)) ?_
  intro W base args ds gs before hval0 hW hcnd _
  have hval : ∀ (j : Nat) t v, Try.f4.params[j]? = some t → args[j]? = some v → Value.okWide Try.prog W .any base t v := hval0
  have hW' := hW
  obtain ⟨p, q, hA0, hV, rfl, hfz, hnd⟩ := hW
  have hA : DataW.TrodAll enc Try.prog W 0 (fun _ => true) true Try.f4.params.toList args.toList ds p := hA0
  rw [Try.params4] at hA hval
  obtain ⟨v0, vs0, d0, ds0, p0, q0, hargs, rfl, rfl, h0, r0⟩ := trodAll_cons hA
  obtain ⟨rfl, rfl, rfl⟩ := trodAll_nil r0
  obtain rfl : args = #[v0] := by cases args; simp_all
  obtain ⟨rfl, rfl⟩ := trodVars_none hV
  obtain ⟨a0, rfl, l0⟩ := open_str Try.underlying9 (hval 0 _ v0 rfl rfl) h0
  refine (Try.msgidParses a0 l0 W).mono fun e W' ⟨he, hb⟩ => ?_
  subst he
  exact ⟨_, rfl, _, _, _, [], _, [], hW', (trodAll_cons_mk (shut_bool (by kernel_rfl : Try.prog.underlying _ = some .bool) _) trodAll_mk0), (trodAll_cons_mk (Below.trod laidOut rr_str rl_str h0 hb (places_lt h0)) trodAll_mk0), rfl, hb.frame _, fun h => by cases h⟩

theorem over : Rows.msgidParsesRow.holds Try.pinned (OpenSpec.ofChange Rows.msgidParsesSpec) :=
  OpenClaim.holds_of_wide 4 Try.f4 rfl rfl rfl rfl rfl rfl rfl ⟨rfl, rfl, rfl, rfl, rfl⟩ rfl rfl rfl rfl rfl (by kernel_rfl) Try.func4 (by kernel_rfl)
    (of_decide_eq_true (by kernel_rfl)) (by unfold Func.isWrapper; first | (rw [if_pos (by decide +kernel)]; kernel_rfl) | (rw [if_neg (by decide +kernel)]; exact ⟨rfl, rfl⟩))
    (fun os started H enc _ => lifted os started H enc)

theorem proved : Rows.MsgidParsesSaid :=
  over
#print axioms proved
end Go.Proofs.Ytfgadmiencgmgaa.msgidParses
