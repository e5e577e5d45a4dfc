/- BindRoundTrip: for all such arguments the law answers true, and they read behind the call as before it. No condition beyond the row's own. -/
import Derived.Test.YtacjjkbkhpdhnaaGreatDoorShl
import Derived.Test.YtacjjkbkhpdhnaaGreatDoorZpl
import Derived.Test.YtacjjkbkhpdhnaaGreatDoorBtf
import Derived.Test.YtacjjkbkhpdhnaaGreatDoorLrt
import Derived.Test.YtacjjkbkhpdhnaaGreatDoorOpf
namespace Go.Proofs.YtacjjkbkhpdhnaaGreatDoor.bindRoundTrip
open Go.ChangeShapes Go.WideShapes Go.ChangeAt Go.RowKit

set_option maxRecDepth 100000 in
theorem contract {H : Type} {enc : TypeId × Value → H} (W : World) (base : Nat) (args : Array Value) (ds gs : List (DataW H)) (before : List MemPlace)
    (hval : ∀ (j : Nat) t v, Tryz.f6.params[j]? = some t → args[j]? = some v → Value.okWide Tryz.prog W .any base t v)
    (hW : DataW.Whole enc Tryz.prog Tryz.f6.params.toList Rows.bindRoundTripSpec.vars false W args.toList ds gs before) :
    Calls Tryz.prog 6 args W fun e W' => ∃ v, e = .returned v ∧ Rows.bindRoundTripSpec.post enc Tryz.prog Tryz.f6 false true false false W args v W' := by
  have hW' := hW
  obtain ⟨p, q, hA, _, _, _, _⟩ := hW
  have hA1 := hA
  rw [Tryz.params6] at hA1 hval
  obtain ⟨v0, vs0, d0, ds0, p0, q0, hargs, rfl, rfl, h0, r0⟩ := trodAll_cons hA1
  obtain ⟨v1, vs1, d1, ds1, p1, q1, rfl, rfl, rfl, h1, r1⟩ := trodAll_cons r0
  obtain ⟨v2, vs2, d2, ds2, p2, q2, rfl, rfl, rfl, h2, r2⟩ := trodAll_cons r1
  obtain ⟨v3, vs3, d3, ds3, p3, q3, rfl, rfl, rfl, h3, r3⟩ := trodAll_cons r2
  obtain ⟨rfl, rfl, rfl⟩ := trodAll_nil r3
  obtain rfl : args = #[v0, v1, v2, v3] := by cases args; simp_all
  obtain ⟨s0, rfl⟩ := okWide_string Tryz.underlying9 (hval 0 9 v0 rfl rfl)
  obtain ⟨uA1, uses1, uc1, dA1, decls1, dc1, rfl, hu1, hd1, hus1, hds1⟩ := open_source (hval 1 40 v1 rfl rfl) h1
  obtain ⟨label2, uA2, uses2, uc2, dA2, decls2, dc2, rfl, hlb2, hu2, hd2, hus2, hds2⟩ := open_module (hval 2 25 v2 rfl rfl) h2
  obtain ⟨kA3, known3, kc3, rfl, hk3⟩ := open_ifaces (hval 3 41 v3 rfl rfl) h3
  refine (lawRoundTrip_any s0 uses1 uA1 uc1 decls1 dA1 dc1 label2 uses2 uA2 uc2 decls2 dA2 dc2 known3 kA3 kc3 W hu1 hd1 hus1 hds1 hu2 hd2 hus2 hds2 hk3).mono fun e W' ⟨he, hb⟩ => ?_
  subst he
  refine ⟨_, rfl, post_true hW' rfl (by kernel_rfl) rfl ?_ hb⟩
  rw [Tryz.params6]
  intro t ht
  rcases (show t = 9 ∨ t = 40 ∨ t = 25 ∨ t = 41 by simpa using ht) with rfl | rfl | rfl | rfl
  · exact ⟨by kernel_rfl, of_decide_eq_true (by kernel_rfl)⟩
  · exact ⟨by kernel_rfl, of_decide_eq_true (by kernel_rfl)⟩
  · exact ⟨by kernel_rfl, of_decide_eq_true (by kernel_rfl)⟩
  · exact ⟨by kernel_rfl, of_decide_eq_true (by kernel_rfl)⟩

def arg3 : Array Value := #[.string ⟨#[]⟩, .agg #[.slice none 0 0, .slice none 0 0], .agg #[.string ⟨#[]⟩, .slice none 0 0, .slice none 0 0], .slice none 0 0]
set_option maxRecDepth 100000 in
theorem laid_met3 (os : Os) : laidMet Tryz.prog Rows.bindRoundTripRow.laid ((laidWorld os).forCall (fun _ _ => 0) ⟨#[], arg3, []⟩).memory :=
  laidMet_of_run' 8 (by kernel_rfl) (by kernel_rfl)

set_option maxRecDepth 100000 in
theorem lifted (os : Os) (started : os.Started) (H : Type) (enc : TypeId × Value → H) (F : Stop.Interp) :
    ReturnsInHanded {} Tryz.checked os 6 .any ((OpenSpec.ofChange Rows.bindRoundTripSpec).preRow enc Tryz.prog Tryz.f6 Rows.bindRoundTripRow.domain false Rows.bindRoundTripRow.laid) (((OpenSpec.ofChange Rows.bindRoundTripSpec).at F).post enc Tryz.prog Tryz.f6 false true false false) := by
  have hx : ∃ places, DataW.whole enc Tryz.prog ((laidWorld os).forCall (fun _ _ => 0) ⟨#[], arg3, []⟩).memory Tryz.f6.params.toList Rows.bindRoundTripSpec.vars false arg3.toList 8 = some ([.lit (.string []), .agg [.nil, .nil], .agg [.lit (.string []), .nil, .nil], .nil], [], places) := ⟨[], by kernel_rfl⟩
  obtain ⟨places, hx⟩ := hx
  refine returnsInHanded_of_row (C := Tryz.checked) (s := OpenSpec.ofChange Rows.bindRoundTripSpec) Tryz.own started (by kernel_rfl) Tryz.func6
    (witness_row_at (enc := enc) (C := Tryz.checked) false (laidWorld os) arg3 rfl (by kernel_rfl) (by kernel_rfl) (by kernel_rfl)
      (OpenSpec.preRow_of_cond 8 hx (by kernel_rfl) (fun k hk => by cases hk) (by kernel_rfl) (laid_met3 os))) ?_
  intro W base args ds gs before hval hW _ _ _ _ _ _
  exact contract W base args ds gs before hval hW

set_option maxRecDepth 100000 in
theorem said : Rows.BindRoundTripSaid :=
  OpenClaim.holds_of_cond 6 Tryz.f6 rfl rfl rfl rfl rfl rfl rfl ⟨rfl, rfl, rfl, rfl, rfl⟩ rfl rfl rfl rfl rfl (by kernel_rfl) Tryz.func6 bindRoundTripFacts.closed
    (of_decide_eq_true (by kernel_rfl)) (by unfold Func.isWrapper; first | (rw [if_pos (by decide +kernel)]; kernel_rfl) | (rw [if_neg (by decide +kernel)]; exact ⟨rfl, rfl⟩))
    (fun os started H enc _ F => by rw [OpenClaim.pre_eq_preRow]; exact lifted os started H enc F)

set_option maxRecDepth 100000 in
theorem plain (f : FuncId) (fn : Func) (hf : Tryz.pinned.checked.prog.funcNamed "cordwood/cordwoodlaw24.BindRoundTrip" = some f) (hfn : Tryz.pinned.checked.prog.funcs[f]? = some fn) :
    true = Tryz.pinned.checked.prog.looks [] ∧ ∀ (j : Nat) t, fn.params[j]? = some t → Tryz.pinned.checked.prog.wantsStandIn t = false := by
  obtain rfl : f = 6 := Option.some.inj ((show Tryz.prog.funcNamed "cordwood/cordwoodlaw24.BindRoundTrip" = some 6 by kernel_rfl).symm.trans hf) |>.symm
  obtain rfl : fn = Tryz.f6 := (Option.some.inj (Tryz.func6.symm.trans hfn)).symm
  refine ⟨by kernel_rfl, fun j t ht => ?_⟩
  rw [Tryz.params6] at ht
  rcases (show t = 9 ∨ t = 40 ∨ t = 25 ∨ t = 41 by simpa using Array.mem_of_getElem? ht) with rfl | rfl | rfl | rfl
  · exact (show Tryz.prog.wantsStandIn 9 = false by kernel_rfl)
  · exact (show Tryz.prog.wantsStandIn 40 = false by kernel_rfl)
  · exact (show Tryz.prog.wantsStandIn 25 = false by kernel_rfl)
  · exact (show Tryz.prog.wantsStandIn 41 = false by kernel_rfl)

set_option maxRecDepth 100000 in
theorem card : Rows.BindRoundTripCardSaid :=
  Claim7.holds_tied_plain_at .later [] _ _ _ _ said (fun _ h => by cases h) (by kernel_rfl) (fun _ h => by cases h) bindRoundTrip_row_tie rfl ⟨rfl, rfl⟩ (by kernel_rfl) rfl plain (by kernel_rfl)
end Go.Proofs.YtacjjkbkhpdhnaaGreatDoor.bindRoundTrip
