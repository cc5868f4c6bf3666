/- teloptAuths: each returns true at every input, and leaves what came in as it was; what the listed variables read as is tied to the program's text. No condition. -/
import Derived.Test.YtaieafdiomknoaaDoorL22s
import Derived.Test.YtaieafdiomknoaaDoorL22m
import Derived.Test.YtaieafdiomknoaaDoorAbLibF
import Derived.Test.YtaieafdiomknoaaDoorRows
import Derived.Test.YtaieafdiomknoaaDoorTie
import Derived.Test.YtaieafdiomknoaaDoorCards
import Derived.WalkKit
import Derived.ProofKit
import Derived.OpenShut
import Derived.ShutString
import Derived.ChangeOld
import Derived.Below
import Derived.SizedLaws
import Derived.LaidMore
import Derived.LaidLaws
import Derived.Lay
import Derived.SevenTiedAt
import Derived.Handed
import Derived.Stop.Joined
namespace Go.Proofs.YtaieafdiomknoaaDoor.OfTeloptAuths
open Go.ChangeShapes Go.WideShapes Go.ChangeAt Go.RowKit
open Go.ChangeMaps (open_string shut_string)
set_option linter.unusedVariables false
set_option linter.unusedSimpArgs false
theorem own : ownKnob Tryd.prog.godebug = none := by kernel_rfl
theorem laidOut : laidOutB Tryd.prog = true := by kernel_rfl
namespace teloptAuths
abbrev laidD : List (String × DataW Unit) := [("unicode/utf8.acceptRanges", Rows.laid_unicode_utf8_acceptRanges), ("unicode/utf8.first", Rows.laid_unicode_utf8_first)]
set_option maxRecDepth 100000 in
theorem lifted (os : Os) (started : os.Started) (H : Type) (enc : TypeId × Value → H) :
    ReturnsInHanded {} Tryd.checked os 7 .any (fun w args => (Rows.teloptAuthsSpec.pre enc Tryd.prog Tryd.f7 [] false w args ∧ laidMetH Tryd.prog laidD w) ∧ sizedMet enc Tryd.prog Tryd.f7 (OpenSpec.ofChange Rows.teloptAuthsSpec) false w args) (Rows.teloptAuthsSpec.post enc Tryd.prog Tryd.f7 false true false false) := by
  refine returnsInHanded_of_change_and (C := Tryd.checked) (X := fun w _ => laidMetH Tryd.prog laidD w) (fun _ _ _ hh h => h.of_heap hh) own started (by kernel_rfl) Tryd.func7
    (ChangeSpec.witness_shaped (enc := enc) (C := Tryd.checked) (os := os) (X := fun w _ => laidMetH Tryd.prog laidD w) false (World.laidAll Tryd.prog os laidD) #[.agg #[.int .i64 0,.int .i64 0,.int .i64 0,.slice none 0 0], .bool false, .slice none 0 0] 8 (World.laidAll_os _ _ _)
      (World.shaped_of_ZipB (by kernel_rfl) (by kernel_rfl)) (by kernel_rfl) (by kernel_rfl) (by kernel_rfl)
      (by rw [MakeChecks.laidMetH_plain _ _ _ (by kernel_rfl)]; exact laidMet_laidAll _ (by kernel_rfl) (by kernel_rfl))) ?_
  intro W base args ds gs before hval0 hW hcnd hsz0 hL _
  have hval : ∀ (j : Nat) t v, Tryd.f7.params[j]? = some t → args[j]? = some v → Value.okWide Tryd.prog W .any base t v := hval0
  have hW' := hW
  obtain ⟨p, q, hA0, hV, rfl, hfz, hnd⟩ := hW
  have hA : DataW.TrodAll enc Tryd.prog W 0 (fun _ => true) true Tryd.f7.params.toList args.toList ds p := hA0
  rw [Tryd.params7] at hA hval
  obtain ⟨v0, vs0, d0, ds0, p0, q0, hargs, rfl, rfl, h0, r0⟩ := trodAll_cons hA
  obtain ⟨v1, vs1, d1, ds1, p1, q1, rfl, rfl, rfl, h1, r1⟩ := trodAll_cons r0
  obtain ⟨v2, vs2, d2, ds2, p2, q2, rfl, rfl, rfl, h2, r2⟩ := trodAll_cons r1
  obtain ⟨rfl, rfl, rfl⟩ := trodAll_nil r2
  obtain rfl : args = #[v0, v1, v2] := by cases args; simp_all
  obtain ⟨rfl, rfl⟩ := trodVars_none hV
  have ok0 := hval 0 24 v0 rfl rfl
  have k0 := h0
  have lt0 : ∀ x ∈ p0, x.block < W.heap.size := by obtain ⟨m, hm⟩ := k0; exact DataW.trod_lt m _ _ _ hm
  obtain ⟨fuel0, hf0⟩ := h0
  obtain ⟨av0, dd0, vr0, hd0⟩ := Ab.arg_has_agg 4 (by kernel_rfl) (by rw [Tryd.underlying24]) ok0 hf0
  obtain ⟨xk0, xv0, xo0, xa0, xc0, xb0, e0, xh0⟩ := L22.tel_of hd0
  obtain rfl : av0 = _ := Array.ext' e0
  obtain ⟨a1, rfl, rfl, rfl⟩ := open_bool Tryd.underlying4 (hval 1 4 v1 rfl rfl) h1
  have ok2 := hval 2 22 v2 rfl rfl
  obtain ⟨a2, len2, cap2, rfl⟩ := okWide_slice Tryd.underlying22 ok2
  have k2 := h2
  have lt2 : ∀ x ∈ p2, x.block < W.heap.size := by obtain ⟨m, hm⟩ := k2; exact DataW.trod_lt m _ _ _ hm
  obtain ⟨av2, vr2, bs2, b2⟩ : ∃ v, Ab.VRel (Ab.M0 W) v (.slice a2 len2 cap2) ∧ ∃ bs, Ab.Bytes (Ab.rows W) v bs := by
    obtain ⟨fuel, hf⟩ := h2
    have hh := Ab.okWide_has Tryd.underlying22 ok2
    rcases open_ints Tryd.underlying22 Tryd.underlying5 (by kernel_rfl) hf with ⟨hcs, _⟩ | ⟨x, l, c, zs, hcs, _, hl, hm, hz, _, hcell, hwz⟩
    · simp [Value.cells] at hcs
      obtain ⟨rfl, rfl, rfl⟩ := hcs
      obtain ⟨v, k, b⟩ := Ab.arg_bytes (W := W) (.inl ⟨rfl, rfl, rfl, rfl⟩) hh
      exact ⟨v, k, _, b⟩
    · simp [Value.cells] at hcs
      obtain ⟨rfl, rfl, rfl⟩ := hcs
      obtain ⟨v, k, b⟩ := Ab.arg_bytes (W := W) (.inr ⟨_, rfl, hl, hm, by simpa using hz, hcell, hwz⟩) hh
      exact ⟨v, k, _, b⟩
  refine ((L22.auths_calls (h := Ab.rows W) rfl xh0 b2).calls_true (Ab.VRels.cons vr0 (Ab.VRels.cons (.bool _) (Ab.VRels.cons vr2 Ab.VRels.nil)))).mono fun e W' ⟨he, bel⟩ => ?_
  subst he
  exact ⟨_, rfl, _, _, _, [], _, [], hW', trodAll_mk1 (shut_bool Tryd.underlying4 _), (trodAll_cons_mk (Below.trod laidOut (by kernel_rfl) (of_decide_eq_true (by kernel_rfl)) k0 bel lt0) (trodAll_cons_mk (shut_bool Tryd.underlying4 _) (trodAll_cons_mk (Below.trod laidOut (by kernel_rfl) (of_decide_eq_true (by kernel_rfl)) k2 bel lt2) trodAll_mk0))), rfl, bel.frame _, fun h => by cases h⟩
theorem over : Rows.teloptAuthsRow.holds Tryd.pinned (OpenSpec.ofChange Rows.teloptAuthsSpec) :=
  OpenClaim.holds_of_wide 7 Tryd.f7 rfl rfl rfl rfl rfl rfl rfl ⟨rfl, rfl, rfl, rfl, rfl⟩ rfl rfl rfl rfl rfl (by kernel_rfl) Tryd.func7 (by kernel_rfl)
    (of_decide_eq_true (by kernel_rfl)) (by unfold Func.isWrapper; first | (rw [if_pos (by decide +kernel)]; kernel_rfl) | (rw [if_neg (by decide +kernel)]; exact ⟨rfl, rfl⟩))
    (fun os started H enc _ => lifted os started H enc)
end teloptAuths
theorem teloptAuths_said : Rows.TeloptAuthsSaid := teloptAuths.over
/-- The tied card: the row's, its listed variables tied to the program's text. -/
theorem teloptAuths_holds : Rows.TeloptAuthsCardSaid :=
  Claim7.holds_tied_plain_at .later [] [.data, .pinned] true (true, "fd5d0c1985e92b6c51b9bb70c92405a8a41ce3dc531e300d5408a068f783b10e") false
    teloptAuths_said (fun _ h => by cases h) (by kernel_rfl) (fun _ h => by cases h) teloptAuths_row_tie rfl ⟨rfl, rfl⟩ (by kernel_rfl) rfl
    (fun f fn hf hfn => by
      obtain rfl : f = 7 := Option.some.inj ((show Tryd.prog.funcNamed "gangway/gangwaylaw22.TeloptAuths" = some 7 by kernel_rfl).symm.trans hf) |>.symm
      obtain rfl : fn = Tryd.f7 := (Option.some.inj (Tryd.func7.symm.trans hfn)).symm
      exact ⟨by kernel_rfl, fun j t ht => by
        rw [Tryd.params7] at ht
        have hm : t ∈ ([24, 4, 22] : List TypeId) := by
          obtain ⟨_, e⟩ := Array.getElem?_eq_some_iff.1 ht
          rw [← e]; exact Array.getElem_mem_toList _
        simp only [List.mem_cons, List.mem_nil_iff, or_false] at hm
        rcases hm with rfl | rfl | rfl
        · exact (show Tryd.prog.wantsStandIn 24 = false by kernel_rfl)
        · exact (show Tryd.prog.wantsStandIn 4 = false by kernel_rfl)
        · exact (show Tryd.prog.wantsStandIn 22 = false by kernel_rfl)
        ⟩)
    (by kernel_rfl)
#print axioms teloptAuths_holds

end Go.Proofs.YtaieafdiomknoaaDoor.OfTeloptAuths
