/- ViewKnown (its tied card): in every world that the card speaks of, the call of pyxlaw23.ViewKnown returns true and leaves what was there as it was; no condition beyond the card's own. -/
import Derived.Test.YtonkmclifimcmaaGreatDoorKVx
import Derived.Test.YtonkmclifimcmaaGreatDoorCards
import Derived.Test.YtonkmclifimcmaaGreatDoorTie
namespace Go.Proofs.YtonkmclifimcmaaGreatDoor
open Go.ChangeShapes Go.WideShapes Go.ChangeAt Go.RowKit

theorem own : ownKnob Tryz.prog.godebug = none := by kernel_rfl
def flatW : DataW Unit → List Value
  | .agg l => l.flatMap fun
    | .lit (.int k n) => [.int k n]
    | .agg l => l.flatMap fun
      | .lit (.int k n) => [.int k n]
      | _ => []
    | _ => []
  | _ => []
def put (b : Nat) (cs : List Value) (h : Array Obj) : Array Obj := h.modify b fun
  | .cells _ t frozen => .cells cs.toArray t frozen
  | o => o
/-- A WORLD FOR THE WITNESS. -/
noncomputable def laidWorld (os : Os) : World :=
  { World.holding Tryz.prog os ⟨#[], #[], []⟩ with heap := put 2 (flatW Rows.laid_unicode_utf8_first) (put 3 (flatW Rows.laid_unicode_utf8_acceptRanges) (World.holding Tryz.prog os ⟨#[], #[], []⟩).heap) }
theorem laid_met (os : Os) : laidMet Tryz.prog Rows.viewKnownRow.laid ((laidWorld os).forCall (fun _ _ => 0) ⟨#[], #[], []⟩).memory :=
  laidMet_of_run' 8 (by kernel_rfl) (by kernel_rfl)
theorem reads (os : Os) {H : Type} (enc : TypeId × Value → H) : ∃ places, DataW.whole enc Tryz.prog ((laidWorld os).forCall (fun _ _ => 0) ⟨#[], #[], []⟩).memory Tryz.f5.params.toList Rows.viewKnownSpec.vars false (#[] : Array Value).toList 8 = some ([], [], places) :=
  ⟨[], by kernel_rfl⟩
theorem contract (H : Type) (enc : TypeId × Value → H) (W : World) (base : Nat) (args : Array Value) (ds gs : List (DataW H)) (before : List MemPlace)
    (_hval : ∀ (j : Nat) t v, Tryz.f5.params[j]? = some t → args[j]? = some v → Value.okWide Tryz.prog W .any base t v)
    (hW : DataW.Whole enc Tryz.prog Tryz.f5.params.toList Rows.viewKnownSpec.vars false W args.toList ds gs before) :
    Calls Tryz.prog 5 args W fun e W' => ∃ v, e = .returned v ∧ Rows.viewKnownSpec.post enc Tryz.prog Tryz.f5 false true false false W args v W' := by
  have hp : Tryz.f5.params = #[] := by kernel_rfl
  have ha : args = #[] := by
    obtain ⟨p, q, hA, _⟩ := hW
    rw [hp] at hA
    have h : DataW.TrodAll enc Tryz.prog W 0 (fun _ => true) true [] args.toList ds p := hA
    cases hl : args.toList with
    | nil => simpa using hl
    | cons a l => rw [hl] at h; cases ds <;> exact h.elim
  subst ha
  refine (Am.calls_of_ent (c := Tryz.f5.body.getD default) Tryz.func5 (by kernel_rfl) (by kernel_rfl) Am.root W).mono fun e W' ⟨he, q⟩ => ?_
  exact ⟨.bool true, he, Am.post_true hW hp (by kernel_rfl) (by kernel_rfl) (t := 4) Tryz.underlying4 rfl q⟩

set_option maxRecDepth 100000 in
theorem lifted (os : Os) (started : os.Started) (H : Type) (enc : TypeId × Value → H) (F : Stop.Interp) :
    ReturnsInHanded {} Tryz.checked os 5 .any ((OpenSpec.ofChange Rows.viewKnownSpec).preRow enc Tryz.prog Tryz.f5 Rows.viewKnownRow.domain false Rows.viewKnownRow.laid) (((OpenSpec.ofChange Rows.viewKnownSpec).at F).post enc Tryz.prog Tryz.f5 false true false false) := by
  obtain ⟨places, hx⟩ := reads os enc
  refine returnsInHanded_of_row (C := Tryz.checked) (s := OpenSpec.ofChange Rows.viewKnownSpec) own started (by kernel_rfl) Tryz.func5
    (witness_row_at (enc := enc) (C := Tryz.checked) false (laidWorld os) #[] rfl (by kernel_rfl) (by kernel_rfl) (by kernel_rfl)
      (OpenSpec.preRow_of_cond 8 hx (by kernel_rfl) (fun k hk => by cases hk) (by kernel_rfl) (laid_met os))) ?_
  intro W base args ds gs before hval hW _ _ _ _ _ _
  exact contract H enc W base args ds gs before hval hW
theorem said : Rows.ViewKnownSaid :=
  OpenClaim.holds_of_cond 5 Tryz.f5 rfl rfl rfl rfl rfl rfl rfl ⟨rfl, rfl, rfl, rfl, rfl⟩ rfl rfl rfl rfl rfl (by kernel_rfl) Tryz.func5 (by kernel_rfl)
    (of_decide_eq_true (by kernel_rfl)) (by unfold Func.isWrapper; first | (rw [if_pos (by decide +kernel)]; kernel_rfl) | (rw [if_neg (by decide +kernel)]; exact ⟨rfl, rfl⟩))
    (fun os started H enc _ F => by rw [OpenClaim.pre_eq_preRow]; exact lifted os started H enc F)
theorem plain (f : FuncId) (fn : Func) (hf : Tryz.pinned.checked.prog.funcNamed "pyx/pyxlaw23.ViewKnown" = some f) (hfn : Tryz.pinned.checked.prog.funcs[f]? = some fn) :
    true = Tryz.pinned.checked.prog.looks [] ∧ ∀ (j : Nat) t, fn.params[j]? = some t → Tryz.pinned.checked.prog.wantsStandIn t = false := by
  obtain rfl : f = 5 := Option.some.inj ((show Tryz.prog.funcNamed "pyx/pyxlaw23.ViewKnown" = some 5 by kernel_rfl).symm.trans hf) |>.symm
  obtain rfl : fn = Tryz.f5 := (Option.some.inj (Tryz.func5.symm.trans hfn)).symm
  refine ⟨by kernel_rfl, fun j t ht => ?_⟩
  have hp : Tryz.f5.params = #[] := by kernel_rfl
  rw [hp] at ht
  simp at ht
/-- THE CARD. -/
theorem card : Rows.ViewKnownCardSaid :=
  Claim7.holds_tied_plain_at .later [] _ _ _ _ said (fun _ h => by cases h) (by kernel_rfl) (fun _ h => by cases h) viewKnown_row_tie rfl ⟨rfl, rfl⟩ (by kernel_rfl) rfl plain (by kernel_rfl)
#print axioms card
end Go.Proofs.YtonkmclifimcmaaGreatDoor
