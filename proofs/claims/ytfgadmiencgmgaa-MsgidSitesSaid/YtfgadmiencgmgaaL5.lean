/- the law MsgidSites: for every string it answers true; it leaves all that was there as it was -/
import Derived.Test.YtfgadmiencgmgaaKnown
namespace Go.Proofs
open Go.RowKit XK
set_option linter.unusedSimpArgs false
set_option linter.unusedVariables false
set_option maxRecDepth 100000 in
set_option maxHeartbeats 1000000 in
theorem Try.msgidSites (s0 : ByteArray) (h0 : s0.size ≤ 9223372036854775807) (w : World) : Calls Try.prog 7 #[.string s0] w fun e w' => e = .returned (.bool true) ∧ Below w.heap.size w w' := by
  obtain ⟨s, hs⟩ : ∃ s : ByteArray, s0.extract 0 (min (s0.size : Int) 60).toNat = s := ⟨_, rfl⟩
  have hsz : s.size ≤ 1000 := by rw [← hs, ByteArray.size_extract]; omega
  obtain ⟨k, r1, r2, hf1, hf2⟩ := Site.site_eq s hsz
  have hs1 : ∀ W, Calls Try.prog 19 #[.string s] W fun e w' => e = .returned (.tuple #[.int .i64 r1, .int .i64 r2]) ∧ Below W.heap.size W w' := fun W =>
    (Ytfgadmiencgmgaa.PMsgidSites.msgid_Site.calls k s r1 r2 W hf1).mono fun _ _ ⟨he, hd⟩ => ⟨he, YtfgadmiencgmgaaW.PrintWords.Drawn0.below hd⟩
  have hs2 : ∀ W, Calls Try.prog 20 #[.string s] W fun e w' => e = .returned (.tuple #[.int .i64 r1, .int .i64 r2]) ∧ Below W.heap.size W w' := fun W =>
    (Ytfgadmiencgmgaa.PMsgidSites.bulletinref11_Site.calls k s r1 r2 W hf2).mono fun _ _ ⟨he, hd⟩ => ⟨he, YtfgadmiencgmgaaW.PrintWords.Drawn0.below hd⟩
  have c0 := Try.known
  clear hf1 hf2
  go_enter Try.func7, Try.ntmps7
  go_wp2_with fail
  refine (hs1 _).mono ?_
  rintro e w1 ⟨rfl, hb1⟩
  clear hs
  go_wp2_with (first
    | (go_at_call 20; refine (hs2 _).mono ?_; rintro e w2 ⟨rfl, hb2⟩)
    | (go_at_call 13; refine (c0 _).mono ?_; rintro e w3 ⟨rfl, hb3⟩))
  go_ret
  exact ⟨rfl, (hb1.trans (hb2.mono hb1.size)).trans (hb3.mono (Nat.le_trans hb1.size hb2.size))⟩
end Go.Proofs
