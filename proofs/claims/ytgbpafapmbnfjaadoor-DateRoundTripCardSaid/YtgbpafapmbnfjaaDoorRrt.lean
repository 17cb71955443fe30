/- the given card of DateRoundTrip: the law answers true at every input, and every argument reads behind the call as it read before; what the row lists is tied by the given text -/
import Derived.Test.YtgbpafapmbnfjaaDoorKrt
import Derived.Test.YtgbpafapmbnfjaaDoorTr
import Derived.Test.YtgbpafapmbnfjaaDoorCards
import Derived.Test.YtgbpafapmbnfjaaDoorTie
import Derived.ProofKit
import Derived.Lay
import Derived.SevenTiedAt
namespace Go.Proofs.YtgbpafapmbnfjaaDoor.dateRoundTrip
open Go.ChangeShapes Go.WideShapes Go.ChangeAt Go.RowKit TR
set_option linter.unusedVariables false
theorem own : ownKnob Tryd.prog.godebug = none := by kernel_rfl
theorem laidOut : laidOutB Tryd.prog = true := by kernel_rfl
theorem rr_i64 : Tryd.prog.readableRec 3 = true := by kernel_rfl
theorem rl_i64 : 3 < Tryd.prog.types.size := of_decide_eq_true (by kernel_rfl)
set_option maxRecDepth 100000 in
theorem lifted (os : Os) (started : os.Started) (H : Type) (enc : TypeId × Value → H) :
    ReturnsInHanded {} Tryd.checked os 7 .any (fun w args => (Rows.dateRoundTripSpec.pre enc Tryd.prog Tryd.f7 [] false w args ∧ laidMetH Tryd.prog Rows.dateRoundTripRow.laid w) ∧ sizedMet enc Tryd.prog Tryd.f7 (OpenSpec.ofChange Rows.dateRoundTripSpec) false w args)
      (Rows.dateRoundTripSpec.post enc Tryd.prog Tryd.f7 false true false false) := by
  refine returnsInHanded_of_change_and (C := Tryd.checked) (X := fun w _ => laidMetH Tryd.prog Rows.dateRoundTripRow.laid w) (fun _ _ _ hh h => h.of_heap hh) own started (by kernel_rfl) Tryd.func7
    (ChangeSpec.witness_shaped (enc := enc) (C := Tryd.checked) (os := os) (X := fun w _ => laidMetH Tryd.prog Rows.dateRoundTripRow.laid w) false (World.laidAll Tryd.prog os Rows.dateRoundTripRow.laid) #[.int .i64 0, .int .i64 0] 40 (World.laidAll_os _ _ _)
      (World.shaped_of_ZipB (by kernel_rfl) (by kernel_rfl)) (by kernel_rfl) (by kernel_rfl) (by kernel_rfl)
      (by rw [MakeChecks.laidMetH_plain _ _ _ (by kernel_rfl)]; exact laidMet_laidAll _ (by kernel_rfl) (by kernel_rfl))) ?_
  intro W base args ds gs before hval0 hW _ _ hL _
  have hval : ∀ (j : Nat) t v, Tryd.f7.params[j]? = some t → args[j]? = some v → Value.okWide Tryd.prog W .any base t v := hval0
  have hW' := hW
  obtain ⟨p, q, hA0, hV, rfl, hfz, hnd⟩ := hW
  have hA : DataW.TrodAll enc Tryd.prog W 0 (fun _ => true) true Tryd.f7.params.toList args.toList ds p := hA0
  rw [Tryd.params7] at hA hval
  obtain ⟨v0, vs0, d0, ds0, p0, q0, hargs, rfl, rfl, h0, r0⟩ := trodAll_cons hA
  obtain ⟨v1, vs1, d1, ds1, p1, q1, rfl, rfl, rfl, h1, r1⟩ := trodAll_cons r0
  obtain ⟨rfl, rfl, rfl⟩ := trodAll_nil r1
  obtain rfl : args = #[v0, v1] := by cases args; simp_all
  obtain ⟨rfl, rfl⟩ := trodVars_none hV
  simp only [List.append_nil] at hW'
  obtain ⟨a0, rfl, l0⟩ := open_i64 Tryd.underlying3 (hval 0 _ v0 rfl rfl) h0
  obtain ⟨a1, rfl, l1⟩ := open_i64 Tryd.underlying3 (hval 1 _ v1 rfl rfl) h1
  refine (Tryd.kRoundTrip a0 a1 l0 l1 W (Tryd.tabs_of W hL)).mono fun e W' ⟨he, hb⟩ => ?_
  subst he
  exact ⟨_, rfl, _, _, _, [], _, [], hW', (trodAll_cons_mk (shut_bool (by kernel_rfl : Tryd.prog.underlying _ = some .bool) _) trodAll_mk0), (trodAll_cons_mk (Below.trod laidOut rr_i64 rl_i64 h0 hb (places_lt h0)) (trodAll_cons_mk (Below.trod laidOut rr_i64 rl_i64 h1 hb (places_lt h1)) trodAll_mk0)), rfl, hb.frame _, fun h => by cases h⟩

theorem over : Rows.dateRoundTripRow.holds Tryd.pinned (OpenSpec.ofChange Rows.dateRoundTripSpec) :=
  OpenClaim.holds_of_wide 7 Tryd.f7 rfl rfl rfl rfl rfl rfl rfl ⟨rfl, rfl, rfl, rfl, rfl⟩ rfl rfl rfl rfl rfl (by kernel_rfl) Tryd.func7 (by kernel_rfl)
    (of_decide_eq_true (by kernel_rfl)) (by unfold Func.isWrapper; first | (rw [if_pos (by decide +kernel)]; kernel_rfl) | (rw [if_neg (by decide +kernel)]; exact ⟨rfl, rfl⟩))
    (fun os started H enc _ => lifted os started H enc)

theorem proved : Rows.DateRoundTripCardSaid :=
  Claim7.holds_tied_plain_at .later [] [.data,.data,.data,.data,.pinned,.pinned] true (true, "3aaee2d5db847df06f5e46f65e2d337d944d1102621d74fe953ac8f893ef1482") false over (fun _ h => by cases h) (by kernel_rfl) (fun _ h => by cases h) dateRoundTrip_row_tie rfl ⟨rfl, rfl⟩ (by kernel_rfl) rfl
    (fun f fn hf hfn => by
      obtain rfl : f = 7 := Option.some.inj ((show Tryd.prog.funcNamed "bulletin/bulletinlaw04.DateRoundTrip" = some 7 by kernel_rfl).symm.trans hf) |>.symm
      obtain rfl : fn = Tryd.f7 := (Option.some.inj (Tryd.func7.symm.trans hfn)).symm
      exact ⟨by kernel_rfl, fun j t ht => by
        rw [Tryd.params7] at ht
        have hm : t ∈ [3, 3] := by simpa using Array.mem_of_getElem? ht
        have hall : ([3, 3].all fun u => !Tryd.prog.wantsStandIn u) = true := by kernel_rfl
        exact (show Tryd.prog.wantsStandIn t = false by simpa using List.all_eq_true.1 hall t hm)⟩)
    (by kernel_rfl)
#print axioms proved
end Go.Proofs.YtgbpafapmbnfjaaDoor.dateRoundTrip
