/- CmdKnown (its tied card): in every world that the card speaks of, the call of pyx/pyxlaw26.CmdKnown returns true and leaves what was there as it was; no condition beyond the card's own. -/
import Derived.Test.YtonkmclifimcmaaGreatDoorKWl
namespace Go.Proofs.YtonkmclifimcmaaGreatDoor.cmdKnown
open Go.ChangeShapes Go.WideShapes Go.ChangeAt Go.RowKit
theorem reads (os : Os) {H : Type} (enc : TypeId × Value → H) : ∃ places, DataW.whole enc Tryz.prog ((laidWorld os).forCall (fun _ _ => 0) ⟨#[], #[], []⟩).memory Tryz.f4.params.toList Rows.cmdKnownSpec.vars false (#[] : Array Value).toList 8 = some ([], [], places) :=
  ⟨[], by kernel_rfl⟩
theorem contract (H : Type) (enc : TypeId × Value → H) (W : World) (args : Array Value) (ds gs : List (DataW H)) (before : List MemPlace)
    (hW : DataW.Whole enc Tryz.prog Tryz.f4.params.toList Rows.cmdKnownSpec.vars false W args.toList ds gs before) (hL : laidMetH Tryz.prog Rows.cmdKnownRow.laid W) :
    Calls Tryz.prog 4 args W fun e W' => ∃ v, e = .returned v ∧ Rows.cmdKnownSpec.post enc Tryz.prog Tryz.f4 false true false false W args v W' := by
  have hp : Tryz.f4.params = #[] := by kernel_rfl
  have ha : args = #[] := by
    obtain ⟨p, q, hA, _⟩ := hW
    rw [hp] at hA
    have h : DataW.TrodAll enc Tryz.prog W 0 (fun _ => true) true [] args.toList ds p := hA
    cases hl : args.toList with
    | nil => simpa using hl
    | cons a l => rw [hl] at h; cases ds <;> exact h.elim
  subst ha
  refine (Am.calls_of_ent (c := Tryz.f4.body.getD default) Tryz.func4 (by kernel_rfl) (by kernel_rfl) Am.root4 W (globs hL)).mono fun e W' ⟨he, q⟩ => ?_
  exact ⟨.bool true, he, Am.post_true hW hp (by kernel_rfl) (by kernel_rfl) (t := 4) Tryz.underlying4 rfl q⟩

set_option maxRecDepth 100000 in
theorem lifted (os : Os) (started : os.Started) (H : Type) (enc : TypeId × Value → H) (F : Stop.Interp) :
    ReturnsInHanded {} Tryz.checked os 4 .any ((OpenSpec.ofChange Rows.cmdKnownSpec).preRow enc Tryz.prog Tryz.f4 Rows.cmdKnownRow.domain false Rows.cmdKnownRow.laid) (((OpenSpec.ofChange Rows.cmdKnownSpec).at F).post enc Tryz.prog Tryz.f4 false true false false) := by
  obtain ⟨places, hx⟩ := reads os enc
  refine returnsInHanded_of_row (C := Tryz.checked) (s := OpenSpec.ofChange Rows.cmdKnownSpec) own started (by kernel_rfl) Tryz.func4
    (witness_row_at (enc := enc) (C := Tryz.checked) false (laidWorld os) #[] rfl (by kernel_rfl) (by kernel_rfl) (by kernel_rfl)
      (OpenSpec.preRow_of_cond 8 hx (by kernel_rfl) (fun k hk => by cases hk) (by kernel_rfl) (laid_met os))) ?_
  intro W base args ds gs before _ hW _ _ _ hL _ _
  exact contract H enc W args ds gs before hW hL
theorem said : Rows.CmdKnownSaid :=
  OpenClaim.holds_of_cond 4 Tryz.f4 rfl rfl rfl rfl rfl rfl rfl ⟨rfl, rfl, rfl, rfl, rfl⟩ rfl rfl rfl rfl rfl (by kernel_rfl) Tryz.func4 (by kernel_rfl)
    (of_decide_eq_true (by kernel_rfl)) (by unfold Func.isWrapper; first | (rw [if_pos (by decide +kernel)]; kernel_rfl) | (rw [if_neg (by decide +kernel)]; exact ⟨rfl, rfl⟩))
    (fun os started H enc _ F => by rw [OpenClaim.pre_eq_preRow]; exact lifted os started H enc F)
theorem plain (f : FuncId) (fn : Func) (hf : Tryz.pinned.checked.prog.funcNamed "pyx/pyxlaw26.CmdKnown" = some f) (hfn : Tryz.pinned.checked.prog.funcs[f]? = some fn) :
    true = Tryz.pinned.checked.prog.looks [] ∧ ∀ (j : Nat) t, fn.params[j]? = some t → Tryz.pinned.checked.prog.wantsStandIn t = false := by
  obtain rfl : f = 4 := Option.some.inj ((show Tryz.prog.funcNamed "pyx/pyxlaw26.CmdKnown" = some 4 by kernel_rfl).symm.trans hf) |>.symm
  obtain rfl : fn = Tryz.f4 := (Option.some.inj (Tryz.func4.symm.trans hfn)).symm
  refine ⟨by kernel_rfl, fun j t ht => ?_⟩
  have hp : Tryz.f4.params = #[] := by kernel_rfl
  rw [hp] at ht
  simp at ht
/-- THE CARD. -/
theorem card : Rows.CmdKnownCardSaid :=
  Claim7.holds_tied_plain_at .later [] _ _ _ _ said (fun _ h => by cases h) (by kernel_rfl) (fun _ h => by cases h) cmdKnown_row_tie rfl ⟨rfl, rfl⟩ (by kernel_rfl) rfl plain (by kernel_rfl)
#print axioms card
end Go.Proofs.YtonkmclifimcmaaGreatDoor.cmdKnown
