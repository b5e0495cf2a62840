/- THE ABSTRACT MACHINE, part 3: that a call which it evaluates returns in the model with a value, memory and frame related to what was evaluated; an evaluator made for the kernel, equal to it; summaries. -/
import Derived.Test.YtonkmclifimcmaaGreatDoorAm2
import Derived.Test.YtonkmclifimcmaaGreatDoorAm1
import Derived.Lib.Bytealg
import GoSem.ClaimChange
import Derived.ChangeShapes
import Derived.RowKit
import Derived.WalkKit
import Derived.ProofKit
import Derived.OpenShut
import Derived.Deep.DeepHandedRow
import Derived.Below
import Derived.Deep.Draws
import Derived.Sort.Grow
import Derived.Lib.AtoiAll
import Derived.Lib.ConvBytes
import Derived.Lib.IndexAny
import Derived.Lib.ItoaNum
import Derived.Lib.Join
import Derived.Lib.LaidTab
import Derived.Stop.LaidErr
namespace Am
open Go
variable {P : Program} {T : TT} {call : CallT} {μ : Mp}

mutual
theorem veq_ok : ∀ {a b : V}, veq a b = true → a = b
  | .b x, .b y, h => by cases x <;> cases y <;> simp [veq, beqB] at h <;> rfl
  | .i k x, .i k' y, h => by
    simp only [veq, Bool.and_eq_true, keq_eq, ieq_eq, decide_eq_true_eq, beq_iff_eq] at h
    rw [h.1, h.2]
  | .s x, .s y, h => by simp only [veq, seq_self, beq_iff_eq] at h; rw [h]
  | .pn, .pn, _ => rfl
  | .p b o, .p b' o', h => by simp only [veq, Bool.and_eq_true, Nat.beq_eq] at h; rw [h.1, h.2]
  | .sn, .sn, _ => rfl
  | .sl b o n sz none, .sl b' o' n' sz' none, h => by
    simp only [veq, Bool.and_eq_true, Nat.beq_eq] at h
    obtain ⟨rfl, rfl, rfl, rfl⟩ := h
    rfl
  | .sl b o n sz (some c), .sl b' o' n' sz' (some c'), h => by
    simp only [veq, Bool.and_eq_true, Nat.beq_eq] at h
    obtain ⟨rfl, rfl, rfl, rfl, rfl⟩ := h
    rfl
  | .mn, .mn, _ => rfl
  | .m r, .m r', h => by simp only [veq, Nat.beq_eq] at h; rw [h]
  | .nf, .nf, _ => rfl
  | .ic t x, .ic t' y, h => by
    simp only [veq, Bool.and_eq_true, Nat.beq_eq] at h
    rw [h.1, veq_ok h.2]
  | .ni, .ni, _ => rfl
  | .a x, .a y, h => by simp only [veq] at h; rw [veqs_ok h]
  | .t x, .t y, h => by simp only [veq] at h; rw [veqs_ok h]
  | .sl _ _ _ _ none, .sl _ _ _ _ (some _), h => by simp [veq] at h
  | .sl _ _ _ _ (some _), .sl _ _ _ _ none, h => by simp [veq] at h
  | .f .., b, h => by simp [veq] at h
  | .lp .., b, h => by simp [veq] at h
  | .lsl .., b, h => by simp [veq] at h
  | .b _, .i _ _, h | .b _, .s _, h | .b _, .pn, h | .b _, .p _ _, h | .b _, .sn, h | .b _, .sl .., h | .b _, .mn, h | .b _, .m _, h | .b _, .f .., h | .b _, .nf, h | .b _, .ic .., h | .b _, .ni, h | .b _, .a _, h | .b _, .t _, h | .b _, .lp _, h | .b _, .lsl .., h => by simp [veq] at h
  | .i .., .b _, h | .i .., .s _, h | .i .., .pn, h | .i .., .p _ _, h | .i .., .sn, h | .i .., .sl .., h | .i .., .mn, h | .i .., .m _, h | .i .., .f .., h | .i .., .nf, h | .i .., .ic .., h | .i .., .ni, h | .i .., .a _, h | .i .., .t _, h | .i .., .lp _, h | .i .., .lsl .., h => by simp [veq] at h
  | .s _, .b _, h | .s _, .i _ _, h | .s _, .pn, h | .s _, .p _ _, h | .s _, .sn, h | .s _, .sl .., h | .s _, .mn, h | .s _, .m _, h | .s _, .f .., h | .s _, .nf, h | .s _, .ic .., h | .s _, .ni, h | .s _, .a _, h | .s _, .t _, h | .s _, .lp _, h | .s _, .lsl .., h => by simp [veq] at h
  | .pn, .b _, h | .pn, .i _ _, h | .pn, .s _, h | .pn, .p _ _, h | .pn, .sn, h | .pn, .sl .., h | .pn, .mn, h | .pn, .m _, h | .pn, .f .., h | .pn, .nf, h | .pn, .ic .., h | .pn, .ni, h | .pn, .a _, h | .pn, .t _, h | .pn, .lp _, h | .pn, .lsl .., h => by simp [veq] at h
  | .p .., .b _, h | .p .., .i _ _, h | .p .., .s _, h | .p .., .pn, h | .p .., .sn, h | .p .., .sl .., h | .p .., .mn, h | .p .., .m _, h | .p .., .f .., h | .p .., .nf, h | .p .., .ic .., h | .p .., .ni, h | .p .., .a _, h | .p .., .t _, h | .p .., .lp _, h | .p .., .lsl .., h => by simp [veq] at h
  | .sn, .b _, h | .sn, .i _ _, h | .sn, .s _, h | .sn, .pn, h | .sn, .p _ _, h | .sn, .sl .., h | .sn, .mn, h | .sn, .m _, h | .sn, .f .., h | .sn, .nf, h | .sn, .ic .., h | .sn, .ni, h | .sn, .a _, h | .sn, .t _, h | .sn, .lp _, h | .sn, .lsl .., h => by simp [veq] at h
  | .sl _ _ _ _ c, .b _, h | .sl _ _ _ _ c, .i _ _, h | .sl _ _ _ _ c, .s _, h | .sl _ _ _ _ c, .pn, h | .sl _ _ _ _ c, .p _ _, h | .sl _ _ _ _ c, .sn, h | .sl _ _ _ _ c, .mn, h | .sl _ _ _ _ c, .m _, h | .sl _ _ _ _ c, .f .., h | .sl _ _ _ _ c, .nf, h | .sl _ _ _ _ c, .ic .., h | .sl _ _ _ _ c, .ni, h | .sl _ _ _ _ c, .a _, h | .sl _ _ _ _ c, .t _, h | .sl _ _ _ _ c, .lp _, h | .sl _ _ _ _ c, .lsl .., h => by cases c <;> simp [veq] at h
  | .mn, .b _, h | .mn, .i _ _, h | .mn, .s _, h | .mn, .pn, h | .mn, .p _ _, h | .mn, .sn, h | .mn, .sl .., h | .mn, .m _, h | .mn, .f .., h | .mn, .nf, h | .mn, .ic .., h | .mn, .ni, h | .mn, .a _, h | .mn, .t _, h | .mn, .lp _, h | .mn, .lsl .., h => by simp [veq] at h
  | .m _, .b _, h | .m _, .i _ _, h | .m _, .s _, h | .m _, .pn, h | .m _, .p _ _, h | .m _, .sn, h | .m _, .sl .., h | .m _, .mn, h | .m _, .f .., h | .m _, .nf, h | .m _, .ic .., h | .m _, .ni, h | .m _, .a _, h | .m _, .t _, h | .m _, .lp _, h | .m _, .lsl .., h => by simp [veq] at h
  | .nf, .b _, h | .nf, .i _ _, h | .nf, .s _, h | .nf, .pn, h | .nf, .p _ _, h | .nf, .sn, h | .nf, .sl .., h | .nf, .mn, h | .nf, .m _, h | .nf, .f .., h | .nf, .ic .., h | .nf, .ni, h | .nf, .a _, h | .nf, .t _, h | .nf, .lp _, h | .nf, .lsl .., h => by simp [veq] at h
  | .ic .., .b _, h | .ic .., .i _ _, h | .ic .., .s _, h | .ic .., .pn, h | .ic .., .p _ _, h | .ic .., .sn, h | .ic .., .sl .., h | .ic .., .mn, h | .ic .., .m _, h | .ic .., .f .., h | .ic .., .nf, h | .ic .., .ni, h | .ic .., .a _, h | .ic .., .t _, h | .ic .., .lp _, h | .ic .., .lsl .., h => by simp [veq] at h
  | .ni, .b _, h | .ni, .i _ _, h | .ni, .s _, h | .ni, .pn, h | .ni, .p _ _, h | .ni, .sn, h | .ni, .sl .., h | .ni, .mn, h | .ni, .m _, h | .ni, .f .., h | .ni, .nf, h | .ni, .ic .., h | .ni, .a _, h | .ni, .t _, h | .ni, .lp _, h | .ni, .lsl .., h => by simp [veq] at h
  | .a _, .b _, h | .a _, .i _ _, h | .a _, .s _, h | .a _, .pn, h | .a _, .p _ _, h | .a _, .sn, h | .a _, .sl .., h | .a _, .mn, h | .a _, .m _, h | .a _, .f .., h | .a _, .nf, h | .a _, .ic .., h | .a _, .ni, h | .a _, .t _, h | .a _, .lp _, h | .a _, .lsl .., h => by simp [veq] at h
  | .t _, .b _, h | .t _, .i _ _, h | .t _, .s _, h | .t _, .pn, h | .t _, .p _ _, h | .t _, .sn, h | .t _, .sl .., h | .t _, .mn, h | .t _, .m _, h | .t _, .f .., h | .t _, .nf, h | .t _, .ic .., h | .t _, .ni, h | .t _, .a _, h | .t _, .lp _, h | .t _, .lsl .., h => by simp [veq] at h
theorem veqs_ok : ∀ {a b : List V}, veqs a b = true → a = b
  | [], [], _ => rfl
  | a :: x, b :: y, h => by
    simp only [veqs, Bool.and_eq_true] at h
    rw [veq_ok h.1, veqs_ok h.2]
  | [], _ :: _, h => by simp [veqs] at h
  | _ :: _, [], h => by simp [veqs] at h
end
theorem confl_of {ops : Array Oper} {x y : Oper} {fx fy : Fp} (h : Cf ops x y fx fy) : confl ops x y fx fy = true := by
  unfold confl
  rcases h with ⟨d, h1, h2⟩ | ⟨d, h1, h2⟩ | ⟨s, h1, h2, h3⟩ | ⟨h1, h2⟩
  · rw [h1]
    rcases h2 with h2 | h2
    · simp [h2]
    · simp [h2, Nat.beq_refl]
  · rw [h1]; simp [h2]
  · rw [h1, h2]
    rcases h3 with h3 | h3 <;> simp [h3, Nat.beq_refl]
  · simp [h1, h2]
theorem Cf.symm {ops : Array Oper} {x y : Oper} {fx fy : Fp} (h : Cf ops x y fx fy) : Cf ops y x fy fx := by
  rcases h with ⟨d, h1, h2 | h2⟩ | ⟨d, h1, h2⟩ | ⟨s, h1, h2, h3⟩ | ⟨h1, h2⟩
  · exact .inr (.inl ⟨d, h1, h2⟩)
  · exact .inl ⟨d, h2, .inr h1⟩
  · exact .inl ⟨d, h1, .inl h2⟩
  · exact .inr (.inr (.inl ⟨s, h2, h1, h3.symm⟩))
  · exact .inr (.inr (.inr ⟨h2, h1⟩))
theorem maskOf_bit {acc : List Nat} {i : Nat} : ∀ {es : List Edge}, Nat.testBit (maskOf acc es) i = true → ∃ e ∈ es, Region.binds .any e = true ∧ (e.on = i ∨ Nat.testBit (acc.getD e.on 0) i = true) := by
  intro es
  induction es with
  | nil => intro h; simp [maskOf] at h
  | cons e es ih =>
    intro h
    simp only [maskOf] at h
    cases hb : Region.binds .any e with
    | false =>
      rw [hb] at h
      obtain ⟨e', h1, h2⟩ := ih h
      exact ⟨e', by simp [h1], h2⟩
    | true =>
      rw [hb] at h
      simp only [cond_true] at h
      have h' : Nat.testBit ((2 ^ e.on ||| acc.getD e.on 0) ||| maskOf acc es) i = true := h
      rw [Nat.testBit_or, Nat.testBit_or, Nat.testBit_two_pow] at h'
      simp only [Bool.or_eq_true, decide_eq_true_eq] at h'
      rcases h' with (h' | h') | h'
      · exact ⟨e, by simp, hb, .inl h'⟩
      · exact ⟨e, by simp, hb, .inr h'⟩
      · obtain ⟨e', h1, h2⟩ := ih h'
        exact ⟨e', by simp [h1], h2⟩
theorem masks_spec : ∀ (r : List Oper) (acc : List Nat), (∃ tl, masks r acc = acc ++ tl) ∧ ∀ j o, r[j]? = some o → (masks r acc).getD (acc.length + j) 0 = maskOf ((masks r acc).take (acc.length + j)) o.after.toList := by
  intro r
  induction r with
  | nil => intro acc; exact ⟨⟨[], by simp [masks]⟩, by simp⟩
  | cons o r ih =>
    intro acc
    obtain ⟨⟨tl, h1⟩, h2⟩ := ih (acc ++ [maskOf acc o.after.toList])
    refine ⟨⟨maskOf acc o.after.toList :: tl, by simp [masks, h1]⟩, fun j o' hj => ?_⟩
    cases j with
    | zero =>
      simp at hj
      subst hj
      simp [masks, h1]
    | succ j =>
      simp at hj
      have := h2 j o' hj
      simp only [List.length_append, List.length_singleton] at this
      simp only [masks]
      rw [show acc.length + (j + 1) = acc.length + 1 + j by omega]
      exact this
theorem mask_anc {ops : Array Oper} {i j : Nat} {o : Oper} (hj : ops[j]? = some o) (h : Nat.testBit ((masks ops.toList []).getD j 0) i = true) :
    ∃ e ∈ o.after, Region.binds .any e = true ∧ (e.on = i ∨ (e.on < j ∧ Nat.testBit ((masks ops.toList []).getD e.on 0) i = true)) := by
  have := (masks_spec ops.toList []).2 j o (by simpa using hj)
  simp only [List.length_nil, Nat.zero_add] at this
  rw [this] at h
  obtain ⟨e, h1, h2, h3⟩ := maskOf_bit h
  refine ⟨e, by simpa using h1, h2, h3.imp id fun h3 => ?_⟩
  by_cases hlt : e.on < j
  · refine ⟨hlt, ?_⟩
    rw [List.getD_eq_getElem?_getD, List.getElem?_take_of_lt hlt, ← List.getD_eq_getElem?_getD] at h3
    exact h3
  · rw [List.getD_eq_getElem?_getD, List.getElem?_eq_none (by simp; omega)] at h3
    simp at h3
/-- what is ahead of one that may run has run -/
def Closed (ops : Array Oper) (L : Nat → Bool) : Prop := ∀ k o, L k = true → ops[k]? = some o → ∀ e ∈ o.after, Region.binds .any e = true → L e.on = true
theorem anc_listed {ops : Array Oper} {L : Nat → Bool} (hC : Closed ops L) {i : Nat} : ∀ {j : Nat} {o : Oper}, ops[j]? = some o → (∀ e ∈ o.after, Region.binds .any e = true → L e.on = true) → Nat.testBit ((masks ops.toList []).getD j 0) i = true → L i = true := by
  intro j
  induction j using Nat.strongRecOn with
  | _ j ih =>
    intro o hj hr h
    obtain ⟨e, h1, h2, h3⟩ := mask_anc hj h
    have hL := hr e h1 h2
    rcases h3 with rfl | ⟨hlt, h3⟩
    · exact hL
    · have hjn : j < ops.size := (Array.getElem?_eq_some_iff.1 hj).1
      have hoe : ops[e.on]? = some ops[e.on] := by simp [Nat.lt_trans hlt hjn]
      exact ih e.on hlt hoe (fun e' h1' h2' => hC e.on _ hL hoe e' h1' h2') h3
end Am
namespace Am
open Go
variable {P : Program} {T : TT} {call : CallT} {μ : Mp}
section
variable {kd : List Kd} {ops : Array Oper} {l : List RO} {tr : List St} {e : St}
theorem good_of (ho : ordered ops l (masks ops.toList []) ops.size = true) {L : Nat → Bool} (hC : Closed ops L) {i : Nat} {o : Oper} (hi : ops[i]? = some o) (hnL : L i = false) (hr : ∀ e ∈ o.after, Region.binds .any e = true → L e.on = true) : Good ops l L i := by
  have hin : i < ops.size := (Array.getElem?_eq_some_iff.1 hi).1
  simp only [ordered, List.all_eq_true, List.mem_range] at ho
  intro k hk hki x y hx hy hcf
  rw [hi] at hy
  cases hy
  rcases Nat.lt_or_ge k i with hlt | hge
  · have := ho i hin k hlt
    simp only [hx, hi, confl_of hcf, Bool.not_true, Bool.false_or] at this
    rw [anc_listed hC hi hr this]
    simp [hlt]
  · have hlt : i < k := by omega
    have := ho k hk i hlt
    simp only [hx, hi, confl_of hcf.symm, Bool.not_true, Bool.false_or] at this
    have hd : decide (k < i) = false := by simp; omega
    rw [hd]
    cases hLk : L k with
    | false => rfl
    | true =>
      have := anc_listed hC hx (fun e' h1 h2 => hC k x hLk hx e' h1 h2) this
      rw [hnL] at this
      cases this
theorem lastWh_eq (l : List RO) (n : Nat) : lastWh l n = lastP (wH l) n := by
  induction n with
  | zero => rfl
  | succ n ih =>
    simp only [lastWh, lastP, ih]
    by_cases h : (fpAt l n).wh = true
    · simp [wH, h]
    · have : (fpAt l n).wh = false := by simpa using h
      simp [wH, this]
theorem lastP_pre {w : Nat → Bool} {n i : Nat} (h : i ≤ n) : lastP (fun k => pre i k && w k) n = lastP w i := by
  cases hl : lastP w i with
  | none =>
    refine lastP_not fun k hk => ?_
    by_cases hki : k < i
    · simp [lastP_none hl k hki]
    · simp [pre, hki]
  | some m =>
    obtain ⟨h1, h2, h3⟩ := lastP_some hl
    refine lastP_is (by omega) (by simp [pre, h1, h2]) fun j hj hjn => ?_
    by_cases hji : j < i
    · simp [h3 j hj hji]
    · simp [pre, hji]
theorem mem_floats {ms : List Nat} {n : Nat} {r : Nat} {x : Option Nat} : ∀ {rs : List Nat}, r ∈ rs → (fpAt l r).rh = true → (fpAt l r).wh = false →
    ((x = none ∧ mayMeet0 l ms n r = true ∧ (lastWh l r).isSome = true) ∨ ∃ k, x = some k ∧ k < n ∧ mayMeet l ms n r k = true ∧ isOwn (lastWh l r) k = false) → (r, x) ∈ floatsOf l ms n rs := by
  intro rs
  induction rs with
  | nil => intro h; simp at h
  | cons a rs ih =>
    intro hm h1 h2 hx
    simp only [floatsOf]
    rcases List.mem_cons.1 hm with rfl | hm
    · simp only [h1, h2, Bool.not_false, Bool.and_self, cond_true]
      refine List.mem_append_left _ ?_
      rcases hx with ⟨rfl, hx1, hx2⟩ | ⟨k, rfl, hk, hx1, hx2⟩
      · exact List.mem_append_left _ (by simp [hx1, hx2])
      · refine List.mem_append_right _ (List.mem_map.2 ⟨k, List.mem_filter.2 ⟨List.mem_range.2 hk, by simp [hx1, hx2]⟩, rfl⟩)
    · have := ih hm h1 h2 hx
      cases ((fpAt l a).rh && !(fpAt l a).wh) with
      | false => exact this
      | true => exact List.mem_append_right _ this
def FloatOK (call : CallT) (ops : List RO) (tr : List St) (h : H) (r : Nat) (x : Option Nat) : Prop :=
  ∀ s o, stAt tr r = some s → roAt ops r = some o → wantedG s.ts o.g = true → ∃ ls' h', evO call s.vs s.ts s.ls (heapAt tr h (match x with | none => 0 | some k => k + 1)) o.o = .ok s.v ls' h'
theorem floats_ok {h : H} : ∀ {fl : List (Nat × Option Nat)}, floats call l tr h fl = true → ∀ r x, (r, x) ∈ fl → FloatOK call l tr h r x := by
  intro fl
  induction fl with
  | nil => intro _ r x hm; simp at hm
  | cons a fl ih =>
    intro hf r x hm
    obtain ⟨r0, x0⟩ := a
    simp only [floats, Bool.and_eq_true] at hf
    rcases List.mem_cons.1 hm with hm | hm
    · cases hm
      intro s o hs ho hw
      have h1 := hf.1
      simp only [hs, ho, hw, cond_true] at h1
      split at h1
      · rename_i v ls' h' he
        have := veq_ok h1
        subst this
        exact ⟨ls', h', he⟩
      · cases h1
    · exact ih hf.2 r x hm
/-- what is read floats no further than was looked at -/
theorem float_read (R : Reg T call kd ops l tr e) (hst : ∀ i ro, roAt l i = some ro → stAt tr i = some (stF tr e i)) (hfl : ∀ r x, (r, x) ∈ floatsOf l (masks ops.toList []) ops.size (List.range ops.size) → FloatOK call l tr e.h r x)
    {L : Nat → Bool} (hC : Closed ops L) {i : Nat} {o : Oper} (hi : ops[i]? = some o) (hnL : L i = false) (hr : ∀ e ∈ o.after, Region.binds .any e = true → L e.on = true) :
    (fpAt l i).rh = true → (fpAt l i).wh = false → ∀ ro, roAt l i = some ro → wantedG (stF tr e i).ts ro.g = true → ∃ ls' h', evO call (stF tr e i).vs (stF tr e i).ts (stF tr e i).ls (hV ops l tr e L) ro.o = .ok (stF tr e i).v ls' h' := by
  intro hrh hwh ro hro hwt
  have hin : i < ops.size := (Array.getElem?_eq_some_iff.1 hi).1
  have hev : evO call (stF tr e i).vs (stF tr e i).ts (stF tr e i).ls (stF tr e i).h ro.o = .ok (stF tr e i).v (stF tr e (i + 1)).ls (stF tr e (i + 1)).h := by
    rcases (R.st i ro hro).ev with ⟨_, h⟩ | ⟨h, _⟩
    · exact h
    · rw [h] at hwt; cases hwt
  obtain ⟨_, _, f3, _⟩ := R.facts i (by omega)
  have own : hV ops l tr e L = (stF tr e i).h → ∃ ls' h', evO call (stF tr e i).vs (stF tr e i).ts (stF tr e i).ls (hV ops l tr e L) ro.o = .ok (stF tr e i).v ls' h' := fun h => ⟨_, _, by rw [h]; exact hev⟩
  have look : ∀ x : Option Nat, (i, x) ∈ floatsOf l (masks ops.toList []) ops.size (List.range ops.size) → hV ops l tr e L = heapAt tr e.h (match x with | none => 0 | some k => k + 1) →
      ∃ ls' h', evO call (stF tr e i).vs (stF tr e i).ts (stF tr e i).ls (hV ops l tr e L) ro.o = .ok (stF tr e i).v ls' h' := fun x hm hh => by
    rw [hh]
    exact hfl i x hm _ _ (hst i ro hro) hro hwt
  unfold hV at f3
  rw [lastP_pre (by omega), ← lastWh_eq] at f3
  cases hl : lastP (fun k => L k && wH l k) ops.size with
  | none =>
    have hno := lastP_none hl
    have hhv : hV ops l tr e L = (stF tr e 0).h := by unfold hV; rw [hl]
    cases hw : lastWh l i with
    | none => rw [hw] at f3; exact own (by rw [hhv, f3])
    | some y =>
      refine look none (mem_floats (List.mem_range.2 hin) hrh hwh (.inl ⟨rfl, ?_, by rw [hw]; rfl⟩)) (by rw [hhv, heapAt_eq])
      simp only [mayMeet0, List.all_eq_true, List.mem_range]
      intro y hy
      cases hb : ((fpAt l y).wh && Nat.testBit ((masks ops.toList []).getD i 0) y) with
      | false => rfl
      | true =>
        simp only [Bool.and_eq_true] at hb
        have hLy := anc_listed hC hi hr hb.2
        have := hno y hy
        simp [hLy, wH, hb.1] at this
  | some x =>
    obtain ⟨h1, h2, h3⟩ := lastP_some hl
    simp only [Bool.and_eq_true] at h2
    have hhv : hV ops l tr e L = (stF tr e (x + 1)).h := by unfold hV; rw [hl]
    cases hown : isOwn (lastWh l i) x with
    | true =>
      cases hw : lastWh l i with
      | none => rw [hw] at hown; simp [isOwn] at hown
      | some y =>
        rw [hw] at hown f3
        have : x = y := by simpa [isOwn, Nat.beq_eq] using hown
        subst this
        exact own (by rw [hhv, f3])
    | false =>
      refine look (some x) (mem_floats (List.mem_range.2 hin) hrh hwh (.inr ⟨x, rfl, h1, ?_, hown⟩)) (by rw [hhv, heapAt_eq])
      have hx0 : ops[x]? = some ops[x] := by simp [h1]
      simp only [mayMeet, Bool.and_eq_true, Bool.or_eq_true, List.all_eq_true, List.mem_range]
      refine ⟨h2.2, ?_, ?_⟩
      · cases hb : Nat.testBit ((masks ops.toList []).getD x 0) i with
        | false => rfl
        | true =>
          have := anc_listed hC hx0 (fun e' q1 q2 => hC x _ h2.1 hx0 e' q1 q2) hb
          rw [hnL] at this
          cases this
      · intro y hy
        by_cases hb : ((fpAt l y).wh && Nat.testBit ((masks ops.toList []).getD i 0) y) = true
        · right
          simp only [Bool.and_eq_true] at hb
          have hLy := anc_listed hC hi hr hb.2
          refine Nat.ble_eq_true_of_le ?_
          rcases Nat.lt_or_ge x y with hlt | hge
          · have := h3 y hlt hy
            simp [hLy, wH, hb.1] at this
          · exact hge
        · left
          rw [show ((fpAt l y).wh && Nat.testBit ((masks ops.toList []).getD i 0) y) = false from Bool.eq_false_iff.2 hb]
          rfl
theorem backs_ok (h : backs ops = true) {j : Nat} {o : Oper} (hj : ops[j]? = some o) {e : Edge} (he : e ∈ o.after) (hb : Region.binds .any e = true) : e.on < j := by
  simp only [backs, List.all_eq_true, List.mem_range] at h
  have := h j (Array.getElem?_eq_some_iff.1 hj).1
  rw [hj] at this
  simp only [List.all_eq_true] at this
  have := this e (by simpa using he)
  rw [hb] at this
  simpa using this

/-- a region in its order -/
theorem reg_wp (hT : TOk P T) (hcall : CallOK P call) (R : Reg T call kd ops l tr e) {N : Nat} (hN : kd.length ≤ N) {μ0 : Mp} {h0 : H} {w0 : World} {w₀ : Nat} {Q : Exit → Act → World → Prop} (hQ : LetsOutT Q)
    (hE : ∀ a w, Inv T kd ops l tr e N μ0 h0 w0 w₀ (pre ops.size) a w → Q .normal a w) : ∀ m i, i + m = ops.size → ∀ a w, Inv T kd ops l tr e N μ0 h0 w0 w₀ (pre i) a w → wpOps P ops Q (List.range' i m) a w := by
  intro m
  induction m with
  | zero => intro i hi a w hI; simp at hi; subst hi; exact hE a w hI
  | succ m ih =>
    intro i hi a w hI
    rw [List.range'_succ, wpOps_cons]
    have hin : i < ops.size := by omega
    have ho : ops[i]? = some ops[i] := by simp [hin]
    have G : Good ops l (pre i) i := fun k hk hki x y _ _ _ => rfl
    obtain ⟨_, _, f3, _⟩ := R.facts i (by omega)
    refine Inv.step hT hcall R ho G (by simp [pre]) hN (fun _ _ ro hro hwt => ?_) hI (fun a w h => ih (i + 1) (by omega) a w (by rw [pre_succ]; exact h)) hQ
    rcases (R.st i ro hro).ev with ⟨_, h⟩ | ⟨h, _⟩
    · exact ⟨_, _, by rw [← f3]; exact h⟩
    · rw [h] at hwt; cases hwt
theorem set_ext {listed : Array Bool} {i : Nat} (hi : i < listed.size) : (fun k => (listed.setIfInBounds i true).getD k false) = ext (fun k => listed.getD k false) i := by
  funext k
  simp only [ext]
  by_cases e : k = i
  · subst e; simp [hi]
  · simp [e, Ne.symm e]
theorem cnt_set {listed : Array Bool} {i : Nat} (hi : i < listed.size) (h : listed.getD i true = false) : (listed.setIfInBounds i true).toList.countP (! ·) + 1 = listed.toList.countP (! ·) := by
  have hg : listed[i] = false := by simpa [hi] using h
  have hl : i < listed.toList.length := by simpa using hi
  have hpos : 0 < listed.toList.countP (! ·) := List.countP_pos_iff.2 ⟨false, by rw [← hg]; simp, rfl⟩
  rw [Array.toList_setIfInBounds, List.countP_set hl]
  have e1 : listed.toList[i] = false := by simpa using hg
  rw [e1]
  simp only [Bool.not_false, Bool.not_true, if_true, Bool.false_eq_true, if_false, Nat.add_zero]
  omega
/-- a region in any order -/
theorem any_wp (hT : TOk P T) (hcall : CallOK P call) (R : Reg T call kd ops l tr e) (hst : ∀ i ro, roAt l i = some ro → stAt tr i = some (stF tr e i)) (hfl : ∀ r x, (r, x) ∈ floatsOf l (masks ops.toList []) ops.size (List.range ops.size) → FloatOK call l tr e.h r x)
    (ho : ordered ops l (masks ops.toList []) ops.size = true) (hb : backs ops = true)
    {N : Nat} (hN : kd.length ≤ N) {μ0 : Mp} {h0 : H} {w0 : World} {w₀ : Nat} {Q : Exit → Act → World → Prop} (hQ : LetsOutT Q)
    (hE : ∀ L a w, (∀ k < ops.size, L k = true) → Inv T kd ops l tr e N μ0 h0 w0 w₀ L a w → Q .normal a w) :
    ∀ fuel (listed : Array Bool) a w, listed.size = ops.size → listed.toList.countP (! ·) ≤ fuel → Closed ops (fun k => listed.getD k false) → Inv T kd ops l tr e N μ0 h0 w0 w₀ (fun k => listed.getD k false) a w →
      wpAny P .any ops Q fuel listed a w := by
  have done : ∀ (listed : Array Bool), listed.size = ops.size → Region.ready .any ops listed = [] → ∀ k < ops.size, listed.getD k false = true := by
    intro listed hs hr k
    induction k using Nat.strongRecOn with
    | _ k ih =>
      intro hk
      cases hg : listed.getD k false with
      | true => rfl
      | false =>
        exfalso
        have hm : k ∈ Region.ready .any ops listed := mem_ready.2 ⟨by
          have hks : k < listed.size := by omega
          simp [hks] at hg ⊢
          exact hg, ops[k], by simp [hk], fun e' he' hbi => ih e'.on (backs_ok hb (by simp [hk]) he' hbi) (by have := backs_ok hb (show ops[k]? = some ops[k] by simp [hk]) he' hbi; omega)⟩
        rw [hr] at hm
        cases hm
  intro fuel
  induction fuel with
  | zero =>
    intro listed a w hs hc hC hI
    have hr : Region.ready .any ops listed = [] := by
      cases hr : Region.ready .any ops listed with
      | nil => rfl
      | cons x xs =>
        exfalso
        have hm : x ∈ Region.ready .any ops listed := by rw [hr]; simp
        obtain ⟨h1, o, h2, _⟩ := mem_ready.1 hm
        have hx : x < listed.size := by rw [hs]; exact (Array.getElem?_eq_some_iff.1 h2).1
        have := cnt_set hx h1
        omega
    exact ⟨hr, hE _ a w (done listed hs hr) hI⟩
  | succ fuel ih =>
    intro listed a w hs hc hC hI
    refine ⟨fun hr => hE _ a w (done listed hs hr) hI, fun i hi => ?_⟩
    obtain ⟨h1, o, h2, h3⟩ := mem_ready.1 hi
    have hx : i < listed.size := by rw [hs]; exact (Array.getElem?_eq_some_iff.1 h2).1
    have hnL : listed.getD i false = false := by simp [hx] at h1 ⊢; exact h1
    have hcs := cnt_set hx h1
    have G := good_of ho hC h2 hnL h3
    refine Inv.step hT hcall R h2 G hnL hN (float_read R hst hfl hC h2 hnL h3) hI (fun a w h => ih (listed.setIfInBounds i true) a w (by simpa using hs) (by omega) ?_ (by rw [set_ext hx]; exact h)) hQ
    rw [set_ext hx]
    intro k ok hk hok e' he' hbi
    simp only [ext, Bool.or_eq_true, decide_eq_true_eq] at hk ⊢
    left
    rcases hk with hk | rfl
    · exact hC k ok hk hok e' he' hbi
    · rw [h2] at hok; cases hok; exact h3 e' he' hbi
end
end Am
namespace Am
open Go
variable {P : Program} {T : TT} {call : CallT}
section
variable {kd : List Kd} {N : Nat} {μ0 : Mp} {h0 : H} {w0 : World} {w₀ : Nat}
structure KInv (kd : List Kd) (N : Nat) (μ0 : Mp) (h0 : H) (w0 : World) (w₀ : Nat) (c : Ctx) (vs ts : List V) (ls : Ls) (h : H) (a : Act) (w : World) : Prop where
  ex : ∃ μ κ, HRel μ h w ∧ LRel μ κ ls h w w₀ ∧ w₀ ≤ w.heap.size ∧ FrW w₀ μ0 h0 w0 μ h w ∧
    (∀ (t j : Nat), kd[t]? = some (Kd.v j) → VRel μ (lget vs j) (a.tmps.getD t Go.undef)) ∧
    (∀ (t s : Nat) cs, kd[t]? = some (Kd.l s) → slot ls s = some cs → ∃ b, κ s = some b ∧ a.tmps.getD t Go.undef = .pointer (some ⟨b, 0, none⟩)) ∧
    ∀ t d, findD t c.ds 0 = some d → rtAt c.rt d = none → VRel μ (lget ts d) (a.tmps.getD t Go.undef)
  df : a.defers = []
  sz : a.tmps.size = N
  vl : ∀ (t j : Nat), kd[t]? = some (Kd.v j) → j < vs.length
theorem KInv.weak {c : Ctx} {vs ts ts' : List V} {ls : Ls} {h : H} {a : Act} {w : World} (I : KInv kd N μ0 h0 w0 w₀ c vs ts ls h a w) : KInv kd N μ0 h0 w0 w₀ ⟨[], []⟩ vs ts' ls h a w := by
  obtain ⟨⟨μ, κ, h1, h2, h3, h4, h5, h6, _⟩, b, c, d⟩ := I
  exact ⟨⟨μ, κ, h1, h2, h3, h4, h5, h6, by simp [findD]⟩, b, c, d⟩
def Post (kd : List Kd) (N : Nat) (μ0 : Mp) (h0 : H) (w0 : World) (w₀ : Nat) (c : Ctx) (ex : Ex) (vs ts : List V) (ls : Ls) (h : H) : Exit → Act → World → Prop
  | .normal, a, w => ex = .n ∧ KInv kd N μ0 h0 w0 w₀ c vs ts ls h a w
  | .exit id, a, w => ex = .x id ∧ KInv kd N μ0 h0 w0 w₀ ⟨[], []⟩ vs ts ls h a w
  | .ret, a, w => ex = .r ∧ KInv kd N μ0 h0 w0 w₀ ⟨[], []⟩ vs ts ls h a w
  | .outgrown, _, _ => False
  | _, _, _ => False
/-- the names are all different -/
structure Named (kd : List Kd) : Prop where
  injV : ∀ (t t' j : Nat), kd[t]? = some (Kd.v j) → kd[t']? = some (Kd.v j) → t = t'
  injL : ∀ (t t' s : Nat) (a b : Bool), slotOf kd (some t) = some (s, a) → slotOf kd (some t') = some (s, b) → t = t'
theorem compR_end : ∀ {r : List Oper} {n : Nat} {c c' : Ctx} {l : List RO}, compR T kd r n c = some (l, c') → c' = cxAt T kd r c r.length := by
  intro r
  induction r with
  | nil => intro n c c' l h; simp [compR] at h; rw [← h.2]; rfl
  | cons a r ih =>
    intro n c c' l h
    simp only [compR] at h
    split at h
    · rename_i g d hg hd
      cases hb : (!(dstOk kd a && rtOk d (compO T kd c a).2)) with
      | true => rw [hb] at h; simp at h
      | false =>
      rw [hb] at h
      simp only [cond_false] at h
      split at h
      · rename_i l2 c2 h2
        cases h
        simp only [List.length_cons, cxAt]
        exact ih h2
      · cases h
    · cases h
theorem ls_ext : ∀ {ls ls' : Ls}, ls.length = ls'.length → (∀ s, slot ls s = slot ls' s) → ls = ls' := by
  intro ls
  induction ls with
  | nil => intro ls' h _; cases ls' <;> simp at h; rfl
  | cons a ls ih =>
    intro ls' h hs
    cases ls' with
    | nil => simp at h
    | cons b ls' =>
      have h0 := hs 0
      simp [slot] at h0
      rw [h0, ih (by simpa using h) fun s => hs (s + 1)]
section
variable {ops : Array Oper} {l : List RO} {tr : List St} {e : St}
/-- a region begins -/
theorem KInv.enter {c : Ctx} {vs ts : List V} {ls : Ls} {h : H} {a : Act} {w : World} (I : KInv kd N μ0 h0 w0 w₀ c vs ts ls h a w) (e1 : (stF tr e 0).vs = vs) (e3 : (stF tr e 0).ls = ls) (e4 : (stF tr e 0).h = h)
    {L : Nat → Bool} (hL : ∀ k, L k = false) : Inv T kd ops l tr e N μ0 h0 w0 w₀ L a w := by
  obtain ⟨⟨μ, κ, h1, h2, h3, h4, h5, h6, _⟩, b, c, d⟩ := I
  have np : ∀ w : Nat → Bool, lastP (fun k => L k && w k) ops.size = none := fun w => lastP_not fun k _ => by simp [hL]
  have hh : hV ops l tr e L = h := by unfold hV; rw [np]; exact e4
  refine ⟨⟨μ, κ, ls, by rw [hh]; exact h1, by rw [hh]; exact h2, h3, by rw [hh]; exact h4, fun s => ?_, by rw [e3], ⟨fun t j hj => ?_, h6, fun k t o hk => by rw [hL] at hk; cases hk⟩⟩, b, c⟩
  · unfold lV; rw [np]; rw [e3]
  · unfold vV; rw [np]; rw [e1]; exact h5 t j hj
/-- a region ends -/
theorem Inv.leave (R : Reg T call kd ops l tr e) (hn : ∀ i, roAt l i = none → stF tr e i = e) {c' : Ctx} (hc : compR T kd ops.toList 0 ⟨[], []⟩ = some (l, c')) {L : Nat → Bool} (hL : ∀ k < ops.size, L k = true) {a : Act} {w : World}
    (I : Inv T kd ops l tr e N μ0 h0 w0 w₀ L a w) : KInv kd N μ0 h0 w0 w₀ c' e.vs e.ts e.ls e.h a w := by
  have hend : stF tr e ops.size = e := hn _ (compR_out hc _ (by simp))
  obtain ⟨f1, f2, f3, f4, f5, f6, f7⟩ := R.facts ops.size (Nat.le_refl _)
  rw [hend] at f1 f2 f3 f4 f5 f6 f7
  have same : ∀ w : Nat → Bool, lastP (fun k => L k && w k) ops.size = lastP (fun k => pre ops.size k && w k) ops.size := fun w => lastP_congr fun k hk => by simp [hL k hk, pre, hk]
  obtain ⟨⟨μ, κ, ls, h1, h2, h3, h4, h5, h6, B⟩, b, c⟩ := I
  have hh : hV ops l tr e L = e.h := by rw [f3]; unfold hV; rw [same]
  have hl : ls = e.ls := ls_ext (by rw [h6, f5]) fun s => by rw [h5, f4]; unfold lV; rw [same]
  subst hl
  rw [hh] at h1 h2 h4
  refine ⟨⟨μ, κ, h1, h2, h3, h4, fun t j hj => ?_, B.locs, fun t d hf hrt => ?_⟩, b, c, fun t j hj => by rw [f1]; exact R.hv t j hj⟩
  · rw [f2 t j hj]
    have := B.vars t j hj
    unfold vV at this ⊢
    rw [same] at this
    exact this
  · rw [compR_end hc] at hf hrt
    have hlen : ops.toList.length = ops.size := by simp
    rw [hlen] at hf hrt
    obtain ⟨_, g2, g3⟩ := findD_some hf
    simp only [Nat.sub_zero] at g2 g3
    have hd : d < ops.size := by
      have := (List.getElem?_eq_some_iff.1 g2).1
      rw [(cxAt_len (by simp)).1] at this
      simpa using this
    have hk : ops.size - 1 - d < ops.size := by omega
    obtain ⟨ok, hok⟩ : ∃ ok, ops[ops.size - 1 - d]? = some ok := ⟨ops[ops.size - 1 - d], by simp [hk]⟩
    have hb := cxAt_back (T := T) (kd := kd) (r := ops.toList) (c := ⟨[], []⟩) (i := ops.size) (by simp) hk (by simpa using hok)
    rw [show ops.size - 1 - (ops.size - 1 - d) = d by omega] at hb
    rw [hb.1] at g2
    simp only [Option.some.injEq] at g2
    have hdst : ok.dst = some t ∧ dstT kd (some t) = some t := by
      cases hx : ok.dst with
      | none => rw [hx] at g2; simp [dstT] at g2
      | some u =>
        rw [hx] at g2
        have := dstT_self g2
        subst this
        exact ⟨rfl, g2⟩
    have := B.tmps (ops.size - 1 - d) t ok (hL _ hk) hok hdst.1 hdst.2 (fun k' hk' hlt _ => by
      by_cases hw : wT ops t k' = true
      · exfalso
        obtain ⟨o', ho'⟩ : ∃ o', ops[k']? = some o' := ⟨ops[k'], by simp [hk']⟩
        simp only [wT, ho', decide_eq_true_eq] at hw
        have hb' := cxAt_back (T := T) (kd := kd) (r := ops.toList) (c := ⟨[], []⟩) (i := ops.size) (by simp) hk' (by simpa using ho')
        rw [hw, hdst.2] at hb'
        exact g3 (ops.size - 1 - k') (by omega) hb'.1
      · simpa using hw)
    rw [rtAt_eq, hb.2] at hrt
    simp only [Option.getD_some] at hrt
    rw [show cxAt T kd ops.toList ⟨[], []⟩ (ops.size - 1 - d) = cxI T kd ops (ops.size - 1 - d) from rfl] at hrt
    rw [hrt] at this
    simp only [RR] at this
    have e1 := f7 _ hk
    rw [show ops.size - 1 - (ops.size - 1 - d) = d by omega] at e1
    rw [e1]
    exact this
end
theorem KInv.drew {c : Ctx} {vs ts : List V} {ls : Ls} {h : H} {a : Act} {w : World} (I : KInv kd N μ0 h0 w0 w₀ c vs ts ls h a w) : KInv kd N μ0 h0 w0 w₀ c vs ts ls h a w.drew := by
  obtain ⟨⟨μ, κ, h1, h2, h3, h4, h5, h6, h7⟩, b, c, d⟩ := I
  exact ⟨⟨μ, κ, h1.drew, h2.frame Fr.drew, h3, h4.trans (Fr.drew.weak h3), h5, h6, h7⟩, b, c, d⟩
end
end Am
namespace Am
open Go
variable {P : Program} {T : TT} {call : CallT}
section
variable {kd : List Kd} {N : Nat} {μ0 : Mp} {h0 : H} {w0 : World} {w₀ : Nat}
theorem KInv.cond {c : Ctx} {vs ts : List V} {ls : Ls} {h : H} {a : Act} {w : World} (I : KInv kd N μ0 h0 w0 w₀ c vs ts ls h a w) {x : Operand} {X : Am.X} (hX : opd kd c x = some X) {t : Bool} (hb : getX vs ts X = .b t) : a.eval x = .bool t := by
  obtain ⟨⟨μ, κ, h1, h2, h3, h4, h5, h6, h7⟩, _, _, _⟩ := I
  have fin : ∀ y, VRel μ (getX vs ts X) y → y = .bool t := by
    intro y hy
    rw [hb] at hy
    cases hy; rfl
  cases x with
  | tmp u =>
    simp only [opd] at hX
    split at hX
    · rename_i j hj
      cases hX
      exact fin _ (h5 u j hj)
    all_goals try (cases hX; done)
    all_goals
      split at hX
      · rename_i d hd
        split at hX
        · rename_i hrt
          cases hX
          exact fin _ (h7 u d hd hrt)
        · cases hX
      · cases hX
  | const v =>
    simp only [opd] at hX
    split at hX
    · rename_i z hz
      cases hX
      exact fin _ (ofVal_ok v hz μ)
    · cases hX
  | func f => cases hX; cases hb
  | global g => cases hX
theorem LetsOut.post {c : Ctx} {ex : Ex} {vs ts : List V} {ls : Ls} {h : H} (_ : Act) (_ : World) : LetsOutT (Post kd N μ0 h0 w0 w₀ c ex vs ts ls h) := trivial
theorem region_wp (hT : TOk P T) (hcall : CallOK P call) (hm : P.follows .mixedOrders = true) (hnm : Named kd) (hN : kd.length ≤ N) {id : Nat} {ops : Array Oper} {draw : Bool} {n : Nat} {c : Ctx} {vs ts : List V} {ls : Ls} {h : H} {a : Act} {w : World}
    {ex : Ex} {vs' ts' : List V} {ls' : Ls} {h' : H} (he : evK call n (compK T kd (.region id ops draw) c).1 vs ts ls h = .ok ex vs' ts' ls' h') (I : KInv kd N μ0 h0 w0 w₀ c vs ts ls h a w) :
    (Code.region id ops draw).wp P (Post kd N μ0 h0 w0 w₀ (compK T kd (.region id ops draw) c).2 ex vs' ts' ls' h') a w := by
  simp only [compK] at he ⊢
  cases hc : compR T kd ops.toList 0 ⟨[], []⟩ with
  | none => simp [hc, evK] at he
  | some p =>
  obtain ⟨l, c'⟩ := p
  simp only [hc] at he ⊢
  -- the way through
  have main : ∀ tr, evTr call l vs [] ls h = .ok tr vs' ts' ls' h' → ex = .n → (draw = true → ordered ops l (masks ops.toList []) ops.size = true ∧ backs ops = true ∧ ∀ r x, (r, x) ∈ floatsOf l (masks ops.toList []) ops.size (List.range ops.size) → FloatOK call l tr h' r x) →
      (Code.region id ops draw).wp P (Post kd N μ0 h0 w0 w₀ c' ex vs' ts' ls' h') a w := by
    intro tr htr hex hd
    subst hex
    let e : St := ⟨vs', ts', ls', h', undef⟩
    obtain ⟨s1, s2, s3, s4, s5, s6, s7⟩ := evTr_spec (e := e) htr
    have R : Reg T call kd ops l tr e := ⟨⟨c', hc⟩, s5, s2, fun t j hj => by rw [s1]; exact I.vl t j hj, hnm.injV, hnm.injL⟩
    have hE : ∀ L a w, (∀ k < ops.size, L k = true) → Inv T kd ops l tr e N μ0 h0 w0 w₀ L a w → Post kd N μ0 h0 w0 w₀ c' .n vs' ts' ls' h' .normal a w :=
      fun L a w hL hI => ⟨rfl, hI.leave R s6 hc hL⟩
    cases draw with
    | false =>
      refine wp_region ?_
      rw [List.range_eq_range']
      exact reg_wp hT hcall R hN (LetsOut.post a w) (fun a w hI => hE _ a w (fun k hk => by simp [pre, hk]) hI) ops.size 0 (by omega) a w (I.enter s1 s3 s4 fun k => by simp [pre])
    | true =>
      obtain ⟨d1, d2, d3⟩ := hd rfl
      refine wp_region_any hm ?_
      refine any_wp hT hcall R s7 d3 d1 d2 hN (LetsOut.post a w) hE ops.size _ a _ (by simp) (Nat.le_trans List.countP_le_length (by simp)) (fun k o hk => ?_) (I.drew.enter s1 s3 s4 fun k => ?_)
      · simp at hk
        by_cases hks : k < ops.size <;> simp [hks] at hk
      · by_cases hks : k < ops.size <;> simp [hks]
  cases draw with
  | false =>
    simp only [cond_false, evK] at he
    obtain ⟨⟨tr, htr⟩, hex⟩ := evTr_of he
    exact main tr htr hex (by simp)
  | true =>
    cases ho : (ordered ops l (masks ops.toList []) ops.size && backs ops) with
    | false => rw [ho] at he; simp [evK] at he
    | true =>
    rw [ho] at he
    rw [Bool.and_eq_true] at ho
    simp only [cond_true, evK] at he
    split at he
    · rename_i hfl
      obtain ⟨⟨tr, htr⟩, hex⟩ := evTr_of he
      exact main tr htr hex fun _ => ⟨ho.1, ho.2, fun r x hm => by rw [hfl] at hm; cases hm⟩
    · rename_i f fs hfl
      split at he
      · rename_i tr vs1 ts1 ls1 h1 htr
        cases hf : floats call l tr h1 (floatsOf l (masks ops.toList []) ops.size (List.range ops.size)) with
        | false => rw [hf] at he; simp at he
        | true =>
        rw [hf] at he
        simp only [cond_true, CR.ok.injEq] at he
        obtain ⟨rfl, rfl, rfl, rfl, rfl⟩ := he
        exact main tr htr rfl fun _ => ⟨ho.1, ho.2, floats_ok hf⟩
      · cases he
/-- the code does what is evaluated -/
theorem code_wp (hT : TOk P T) (hcall : CallOK P call) (hm : P.follows .mixedOrders = true) (hnm : Named kd) (hN : kd.length ≤ N) (n : Nat) : ∀ (code : Code) (c : Ctx) (vs ts : List V) (ls : Ls) (h : H) (a : Act) (w : World)
    (ex : Ex) (vs' ts' : List V) (ls' : Ls) (h' : H), evK call n (compK T kd code c).1 vs ts ls h = .ok ex vs' ts' ls' h' → KInv kd N μ0 h0 w0 w₀ c vs ts ls h a w →
    code.wp P (Post kd N μ0 h0 w0 w₀ (compK T kd code c).2 ex vs' ts' ls' h') a w := by
  intro code
  induction code with
  | skip =>
    intro c vs ts ls h a w ex vs' ts' ls' h' he I
    simp only [compK, evK, CR.ok.injEq] at he
    obtain ⟨rfl, rfl, rfl, rfl, rfl⟩ := he
    exact wp_skip ⟨rfl, I⟩
  | region id ops draw => intro c vs ts ls h a w ex vs' ts' ls' h' he I; exact region_wp hT hcall hm hnm hN he I
  | seq x y ihx ihy =>
    intro c vs ts ls h a w ex vs' ts' ls' h' he I
    simp only [compK, evK] at he ⊢
    refine wp_seq ?_
    cases h1 : evK call n (compK T kd x c).1 vs ts ls h with
    | no => rw [h1] at he; simp at he
    | ok ex1 vs1 ts1 ls1 h1' =>
      have hx := ihx c vs ts ls h a w _ _ _ _ _ h1 I
      refine wp_mono hx fun e a1 w1 hq => ?_
      rw [h1] at he
      cases ex1 with
      | n =>
        simp only at he
        cases e with
        | normal => exact ihy _ _ _ _ _ a1 w1 _ _ _ _ _ he hq.2
        | exit id => cases hq.1
        | ret => cases hq.1
        | outgrown => exact hq.elim
        | goto l => exact hq
        | panic ch => exact hq
      | x i =>
        simp only [CR.ok.injEq] at he
        obtain ⟨rfl, rfl, rfl, rfl, rfl⟩ := he
        cases e with
        | normal => cases hq.1
        | exit id => exact hq
        | ret => exact hq
        | outgrown => exact hq.elim
        | goto l => exact hq
        | panic ch => exact hq
      | r =>
        simp only [CR.ok.injEq] at he
        obtain ⟨rfl, rfl, rfl, rfl, rfl⟩ := he
        cases e with
        | normal => cases hq.1
        | exit id => exact hq
        | ret => exact hq
        | outgrown => exact hq.elim
        | goto l => exact hq
        | panic ch => exact hq
  | cond t x y ihx ihy =>
    intro c vs ts ls h a w ex vs' ts' ls' h' he I
    simp only [compK] at he ⊢
    cases hX : opd kd c t with
    | none => simp [hX, evK] at he
    | some X =>
    simp only [hX, evK] at he ⊢
    split at he
    · rename_i b hb
      refine wp_cond (I.cond hX hb) ?_
      have weak : ∀ c2 e a w, Post kd N μ0 h0 w0 w₀ c2 ex vs' ts' ls' h' e a w → Post kd N μ0 h0 w0 w₀ ⟨[], []⟩ ex vs' ts' ls' h' e a w := by
        intro c2 e a w hq
        cases e with
        | normal => exact ⟨hq.1, hq.2.weak⟩
        | _ => exact hq
      cases b with
      | true => exact wp_mono (ihx c _ _ _ _ a w _ _ _ _ _ he I) (weak _)
      | false => exact wp_mono (ihy c _ _ _ _ a w _ _ _ _ _ he I) (weak _)
    · cases he
  | block id b ih =>
    intro c vs ts ls h a w ex vs' ts' ls' h' he I
    simp only [compK, evK] at he ⊢
    refine wp_block ?_
    cases h1 : evK call n (compK T kd b c).1 vs ts ls h with
    | no => rw [h1] at he; simp at he
    | ok ex1 vs1 ts1 ls1 h1' =>
      refine wp_mono (ih c vs ts ls h a w _ _ _ _ _ h1 I) fun e a1 w1 hq => ?_
      rw [h1] at he
      cases ex1 with
      | n =>
        simp only [CR.ok.injEq] at he
        obtain ⟨rfl, rfl, rfl, rfl, rfl⟩ := he
        cases e with
        | normal => exact ⟨rfl, hq.2.weak⟩
        | exit id => cases hq.1
        | ret => cases hq.1
        | outgrown => exact hq.elim
        | goto l => exact hq
        | panic ch => exact hq
      | x i =>
        simp only at he
        cases e with
        | normal => cases hq.1
        | exit id' =>
          obtain ⟨q1, q2⟩ := hq
          cases q1
          simp only [Exit.inBlock]
          cases hb : Nat.beq i id with
          | true =>
            rw [hb] at he
            have : i = id := by simpa [Nat.beq_eq] using hb
            simp only [cond_true, CR.ok.injEq] at he
            obtain ⟨rfl, rfl, rfl, rfl, rfl⟩ := he
            rw [if_pos this]
            exact ⟨rfl, q2.weak⟩
          | false =>
            rw [hb] at he
            have : i ≠ id := by intro e; subst e; simp [Nat.beq_refl] at hb
            simp only [cond_false, CR.ok.injEq] at he
            obtain ⟨rfl, rfl, rfl, rfl, rfl⟩ := he
            rw [if_neg this]
            exact ⟨rfl, q2⟩
        | ret => cases hq.1
        | outgrown => exact hq.elim
        | goto l => exact hq
        | panic ch => exact hq
      | r =>
        simp only [CR.ok.injEq] at he
        obtain ⟨rfl, rfl, rfl, rfl, rfl⟩ := he
        cases e with
        | normal => cases hq.1
        | exit id => cases hq.1
        | ret => exact hq
        | outgrown => exact hq.elim
        | goto l => exact hq
        | panic ch => exact hq
  | loop b ih =>
    intro c vs ts ls h a w ex vs' ts' ls' h' he I
    simp only [compK, evK] at he ⊢
    have key : ∀ m vs ls h a w, iter (fun vs ls h => evK call n (compK T kd b ⟨[], []⟩).1 vs [] ls h) m vs ls h = .ok ex vs' ts' ls' h' → KInv kd N μ0 h0 w0 w₀ ⟨[], []⟩ vs [] ls h a w →
        ∀ (fb : Frame) (k : List Item) (cs : List Frame), ∃ e a' w', Post kd N μ0 h0 w0 w₀ ⟨[], []⟩ ex vs' ts' ls' h' e a' w' ∧ Arrives P (lone (fb.at a (.code b :: .inLoop b :: k)) cs w) fb k cs e a' w' := by
      intro m
      induction m with
      | zero => intro vs ls h a w he; simp [iter] at he
      | succ m ihm =>
        intro vs ls h a w he I fb k cs
        simp only [iter] at he
        cases h1 : evK call n (compK T kd b ⟨[], []⟩).1 vs [] ls h with
        | no => rw [h1] at he; simp at he
        | ok ex1 vs1 ts1 ls1 h1' =>
          rw [h1] at he
          obtain ⟨e, a₁, w₁, hq, harr⟩ := ih ⟨[], []⟩ vs [] ls h a w _ _ _ _ _ h1 I fb (.inLoop b :: k) cs
          cases ex1 with
          | n =>
            simp only at he
            cases e with
            | normal =>
              obtain ⟨e₂, a₂, w₂, hq₂, harr₂⟩ := ihm _ _ _ a₁ w₁ he hq.2.weak fb k cs
              exact ⟨e₂, a₂, w₂, hq₂, .of_steps (Steps.trans harr (.one step_inLoop)) harr₂⟩
            | exit id => cases hq.1
            | ret => cases hq.1
            | outgrown => exact hq.elim
            | goto l => exact hq.elim
            | panic ch => exact hq.elim
          | x i =>
            simp only [CR.ok.injEq] at he
            obtain ⟨rfl, rfl, rfl, rfl, rfl⟩ := he
            cases e with
            | normal => cases hq.1
            | exit id => exact ⟨.exit id, a₁, w₁, hq, .pass (x := .inLoop b) rfl (fun _ _ => .inl (by simp)) harr⟩
            | ret => cases hq.1
            | outgrown => exact hq.elim
            | goto l => exact hq.elim
            | panic ch => exact hq.elim
          | r =>
            simp only [CR.ok.injEq] at he
            obtain ⟨rfl, rfl, rfl, rfl, rfl⟩ := he
            cases e with
            | normal => cases hq.1
            | exit id => cases hq.1
            | ret => exact ⟨.ret, a₁, w₁, hq, .pass (x := .inLoop b) rfl (fun _ _ => .inl (by simp)) harr⟩
            | outgrown => exact hq.elim
            | goto l => exact hq.elim
            | panic ch => exact hq.elim
    intro fb k cs
    obtain ⟨e, a', w', hq, harr⟩ := key n vs ls h a w he I.weak fb k cs
    exact ⟨e, a', w', hq, .of_steps (.one step_loop) harr⟩
  | exit id =>
    intro c vs ts ls h a w ex vs' ts' ls' h' he I
    simp only [compK, evK, CR.ok.injEq] at he
    obtain ⟨rfl, rfl, rfl, rfl, rfl⟩ := he
    exact wp_exit ⟨rfl, I.weak⟩
  | ret =>
    intro c vs ts ls h a w ex vs' ts' ls' h' he I
    simp only [compK, evK, CR.ok.injEq] at he
    obtain ⟨rfl, rfl, rfl, rfl, rfl⟩ := he
    exact wp_ret ⟨rfl, I.weak⟩
  | _ => intro c vs ts ls h a w ex vs' ts' ls' h' he I; simp [compK, evK] at he
end
end Am
namespace Am
open Go
variable {P : Program} {T : TT} {call : CallT}
theorem number_v : ∀ {ks : List Nat} {v l t j : Nat}, (number ks v l)[t]? = some (Kd.v j) → j = v + countV ((number ks v l).take t) := by
  intro ks
  induction ks with
  | nil => intro v l t j h; simp [number] at h
  | cons k ks ih =>
    intro v l t j h
    match k, h with
    | 0, h =>
      cases t with
      | zero => simp [number] at h; simp [countV, h]
      | succ t => simp only [number, List.getElem?_cons_succ] at h; have := ih h; simp only [number, List.take_succ_cons, countV]; omega
    | 1, h =>
      cases t with
      | zero => simp [number] at h
      | succ t => simp only [number, List.getElem?_cons_succ] at h; have := ih h; simp only [number, List.take_succ_cons, countV]; omega
    | 2, h =>
      cases t with
      | zero => simp [number] at h
      | succ t => simp only [number, List.getElem?_cons_succ] at h; have := ih h; simp only [number, List.take_succ_cons, countV]; omega
    | k + 3, h =>
      cases t with
      | zero => simp [number] at h
      | succ t => simp only [number, List.getElem?_cons_succ] at h; have := ih h; simp only [number, List.take_succ_cons, countV]; omega
theorem number_l : ∀ {ks : List Nat} {v l t s : Nat} {b : Bool}, slotOf (number ks v l) (some t) = some (s, b) → s = l + countL ((number ks v l).take t) := by
  intro ks
  induction ks with
  | nil => intro v l t j b h; simp [slotOf, number] at h
  | cons k ks ih =>
    intro v l t j b h
    have tail : ∀ {x : Kd} {v l t : Nat}, slotOf (x :: number ks v l) (some (t + 1)) = slotOf (number ks v l) (some t) := fun {x v l t} => by simp [slotOf]
    match k, h with
    | 0, h =>
      cases t with
      | zero => simp [slotOf, number] at h
      | succ t => simp only [number, tail] at h; have := ih h; simp only [number, List.take_succ_cons, countL]; omega
    | 1, h =>
      cases t with
      | zero => simp [slotOf, number] at h; simp [countL, h.1]
      | succ t => simp only [number, tail] at h; have := ih h; simp only [number, List.take_succ_cons, countL]; omega
    | 2, h =>
      cases t with
      | zero => simp [slotOf, number] at h; simp [countL, h.1]
      | succ t => simp only [number, tail] at h; have := ih h; simp only [number, List.take_succ_cons, countL]; omega
    | k + 3, h =>
      cases t with
      | zero => simp [slotOf, number] at h
      | succ t => simp only [number, tail] at h; have := ih h; simp only [number, List.take_succ_cons, countL]; omega
theorem countV_app (a b : List Kd) : countV (a ++ b) = countV a + countV b := by
  induction a with
  | nil => simp [countV]
  | cons k a ih => cases k <;> simp [countV, ih] <;> omega
theorem countL_app (a b : List Kd) : countL (a ++ b) = countL a + countL b := by
  induction a with
  | nil => simp [countL]
  | cons k a ih => cases k <;> simp [countL, ih] <;> omega
theorem countV_lt {kd : List Kd} {t j : Nat} (h : kd[t]? = some (Kd.v j)) {u : Nat} (hu : t < u) : countV (kd.take t) < countV (kd.take u) := by
  have e : kd.take (t + 1) = kd.take t ++ [Kd.v j] := by
    have := (List.getElem?_eq_some_iff.1 h)
    obtain ⟨h1, h2⟩ := this
    rw [List.take_succ_eq_append_getElem h1, h2]
  have e2 : kd.take u = kd.take (t + 1) ++ (kd.drop (t + 1)).take (u - (t + 1)) := by
    rw [← List.take_add]; congr 1; omega
  rw [e2, e, countV_app, countV_app]
  simp [countV]
  omega
theorem countL_lt {kd : List Kd} {t s : Nat} {b : Bool} (h : slotOf kd (some t) = some (s, b)) {u : Nat} (hu : t < u) : countL (kd.take t) < countL (kd.take u) := by
  obtain ⟨k, hk, hk1⟩ : ∃ k, kd[t]? = some k ∧ countL [k] = 1 := by
    simp only [slotOf] at h
    split at h
    · rename_i s' hs; exact ⟨_, hs, rfl⟩
    · rename_i s' hs; exact ⟨_, hs, rfl⟩
    · cases h
  have e : kd.take (t + 1) = kd.take t ++ [k] := by
    obtain ⟨h1, h2⟩ := (List.getElem?_eq_some_iff.1 hk)
    rw [List.take_succ_eq_append_getElem h1, h2]
  have e2 : kd.take u = kd.take (t + 1) ++ (kd.drop (t + 1)).take (u - (t + 1)) := by
    rw [← List.take_add]; congr 1; omega
  rw [e2, e, countL_app, countL_app, hk1]
  omega
theorem named (ks : List Nat) : Named (number ks 0 0) := by
  refine ⟨fun t t' j h h' => ?_, fun t t' s a b h h' => ?_⟩
  · have e := number_v h
    have e' := number_v h'
    rcases Nat.lt_trichotomy t t' with hlt | heq | hlt
    · have := countV_lt h hlt; omega
    · exact heq
    · have := countV_lt h' hlt; omega
  · have e := number_l h
    have e' := number_l h'
    rcases Nat.lt_trichotomy t t' with hlt | heq | hlt
    · have := countL_lt h hlt; omega
    · exact heq
    · have := countL_lt h' hlt; omega
theorem countV_all {kd : List Kd} {t j : Nat} (h : kd[t]? = some (Kd.v j)) : countV (kd.take t) < countV kd := by
  have := countV_lt h (u := kd.length) (List.getElem?_eq_some_iff.1 h).1
  simpa using this
theorem parV_take : ∀ {kd : List Kd} {n t : Nat}, parV kd n = true → t ≤ n → countV (kd.take t) = t ∧ t ≤ kd.length := by
  intro kd
  induction kd with
  | nil => intro n t h ht; cases n with
    | zero => simp at ht; subst ht; simp [countV]
    | succ n => simp [parV] at h
  | cons k kd ih =>
    intro n t h ht
    cases n with
    | zero => simp at ht; subst ht; simp [countV]
    | succ n =>
      cases k <;> simp [parV] at h
      cases t with
      | zero => simp [countV]
      | succ t =>
        obtain ⟨h1, h2⟩ := ih h (by omega : t ≤ n)
        simp [countV, h1, h2]
theorem countV_mono (kd : List Kd) {a b : Nat} (h : a ≤ b) : countV (kd.take a) ≤ countV (kd.take b) := by
  have e2 : kd.take b = kd.take a ++ (kd.drop a).take (b - a) := by
    rw [← List.take_add]; congr 1; omega
  rw [e2, countV_app]
  omega
def resS (tmps : Array Value) : ResultVar → Sem Value
  | .tmp t => pure (tmps.getD t Go.undef)
  | .cell x t => do loadVar t (← asAddr (tmps.getD x Go.undef))
/-- the results -/
theorem res_ok {kd : List Kd} {N : Nat} {μ0 : Mp} {h0 : H} {w0 : World} {w₀ : Nat} {vs ts : List V} {ls : Ls} {h : H} {a : Act} {w : World} (hT : TOk P T) (I : KInv kd N μ0 h0 w0 w₀ ⟨[], []⟩ vs ts ls h a w) :
    ∃ μ, HRel μ h w ∧ FrW w₀ μ0 h0 w0 μ h w ∧ ∀ (rs : List ResultVar) (l : List RV) (out : List V), compRes T kd rs = some l → evRes vs ls l = some out →
      ∃ ys : List Value, (rs.mapM (resS a.tmps)).run P w = .ok ys w ∧ VRs μ out ys := by
  obtain ⟨⟨μ, κ, h1, h2, h3, h4, h5, h6, h7⟩, _, _, _⟩ := I
  refine ⟨μ, h1, h4, fun rs => ?_⟩
  induction rs with
  | nil =>
    intro l out hc he
    simp [compRes] at hc
    subst hc
    simp [evRes] at he
    subst he
    exact ⟨[], by simp, .nil⟩
  | cons r rs ih =>
    intro l out hc he
    cases r with
    | tmp t =>
      simp only [compRes] at hc
      split at hc
      · rename_i j l2 hj hl2
        cases hc
        simp only [evRes] at he
        split at he
        · rename_i o2 ho2
          cases he
          obtain ⟨ys, e1, e2⟩ := ih l2 o2 hl2 ho2
          refine ⟨a.tmps.getD t Go.undef :: ys, ?_, .cons (h5 t j hj) e2⟩
          rw [List.mapM_cons]
          simp only [resS, Sem.run_bind, Sem.run_pure, Result.andThen_ok, e1]
        · cases he
      · cases hc
    | cell x t =>
      simp only [compRes] at hc
      split at hc
      · rename_i s ti l2 hs hti hl2
        cases hc
        simp only [evRes] at he
        split at he
        · rename_i cs hcs
          split at he
          · rename_i v o2 hv ho2
            cases he
            obtain ⟨ys, e1, e2⟩ := ih l2 o2 hl2 ho2
            obtain ⟨b, q1, q2⟩ := h6 x s cs hs hcs
            obtain ⟨b', q3, hrow, _, _⟩ := h2.blk s cs hcs
            rw [q1] at q3
            cases q3
            obtain ⟨y, q4, q5⟩ := run_loadVar (P := P) (o := 0) hT hti hrow hv
            refine ⟨y :: ys, ?_, .cons q5 e2⟩
            rw [List.mapM_cons]
            have q4' : (loadVar t ⟨b, 0, none⟩).run P w = .ok y w := q4
            simp only [resS, Sem.run_bind, q2, asAddr, Sem.run_pure, Result.andThen_ok, q4', e1]
          · cases he
        · cases he
      · cases hc
theorem results_ok {fn : Func} {tmps : Array Value} {w : World} {ys : List Value} (h : (fn.results.toList.mapM (resS tmps)).run P w = .ok ys w) :
    (results fn tmps).run P w = .ok (if h : ys.length = 1 then ys[0] else .tuple ys.toArray) w := by
  have e : results fn tmps = (do let vs ← fn.results.mapM (resS tmps); pure (if h : vs.size = 1 then vs[0] else .tuple vs)) := rfl
  rw [e, Array.mapM_eq_mapM_toList]
  simp only [Sem.run_bind, map_eq_pure_bind, h, Sem.run_pure, Result.andThen_ok]
  simp
theorem FrW.toFr {μ : Mp} {h : H} {w : World} {μ' : Mp} {h' : H} {w' : World} (f : FrW w.heap.size μ h w μ' h' w') : Fr μ h w μ' h' w' :=
  ⟨f.ext, f.n, f.size, f.keep, f.live, f.tape, f.os, f.out, f.g⟩
/-- a function does what is evaluated -/
theorem run_ok (hT : TOk P T) (hcall : CallOK P call) (hm : P.follows .mixedOrders = true) {ks : List Nat} {fn : Func} {cf : CF} (hcomp : comp T ks fn = some cf) {f : Nat} (hf : P.funcs[f]? = some fn) (hname : (fn.name == "runtime.NumGoroutine") = false)
    {n : Nat} {args : List V} {h h' : H} {r : V} (he : run n call cf args h = some (r, h')) {μ : Mp} {w : World} {args' : Array Value} (hH : HRel μ h w) (hA : VRs μ args args'.toList) :
    CDoes P f args' w fun y w' => ∃ μ', HRel μ' h' w' ∧ Fr μ h w μ' h' w' ∧ VRel μ' r y := by
  simp only [comp] at hcomp
  cases hb : (Nat.ble (number ks 0 0).length fn.ntmps && parV (number ks 0 0) (fn.params.size + fn.nfree)) with
  | false => rw [hb] at hcomp; simp at hcomp
  | true =>
  rw [hb] at hcomp
  rw [Bool.and_eq_true] at hb
  have hlen := Nat.le_of_ble_eq_true hb.1
  simp only [Bool.not_true, cond_false] at hcomp
  split at hcomp
  · rename_i code rs hbody hres
    cases hcomp
    unfold run at he
    cases ha : (!Nat.beq (vlen args 0) (fn.params.size + fn.nfree)) with
    | true => simp only [ha, cond_true] at he; cases he
    | false =>
    have hargs : args.length = fn.params.size + fn.nfree := by
      simp only [vlen_eq, Nat.add_zero, Bool.not_eq_false', Nat.beq_eq] at ha
      exact ha
    have hargs' : args'.size = fn.params.size + fn.nfree := by rw [← hargs, hA.length]; simp
    simp only [ha, cond_false] at he
    refine .inr ⟨w, ?_, calls_of_wp hf hbody ?_⟩
    · simp only [callFunc, Sem.run_bind, run_program, Result.andThen_ok, hf, hname, hbody, Option.isNone_some, Bool.false_eq_true, if_false, Sem.run_pure]
    · let a : Act := { tmps := args' ++ Array.replicate (fn.ntmps - args'.size) Go.undef, defers := [] }
      have hnp := (parV_take hb.2 (Nat.le_refl _)).2
      have I : KInv (number ks 0 0) fn.ntmps μ h w w.heap.size ⟨[], []⟩ (vapp args (rep (countV (number ks 0 0) - (fn.params.size + fn.nfree)) undef)) [] (rep (countL (number ks 0 0)) none) h a w := by
        refine ⟨⟨μ, fun _ => none, hH, ⟨fun s cs hs => ?_, fun s s' cs cs' c hs => ?_, fun k hk => (hH.glb k hk).1.lt⟩, Nat.le_refl _, FrW.refl _ _ _ _, fun t j hj => ?_, fun t s cs _ hs => ?_, by simp [findD]⟩, rfl, ?_, fun t j hj => ?_⟩
        · exfalso
          have : ∀ (n s : Nat), slot (rep n none) s = none := by
            intro n
            induction n with
            | zero => intro s; rfl
            | succ n ih => intro s; cases s with
              | zero => rfl
              | succ s => exact ih s
          rw [this] at hs; cases hs
        · exfalso
          have : ∀ (n s : Nat), slot (rep n none) s = none := by
            intro n
            induction n with
            | zero => intro s; rfl
            | succ n ih => intro s; cases s with
              | zero => rfl
              | succ s => exact ih s
          rw [this] at hs; cases hs
        · have hjv := number_v hj
          rw [Nat.zero_add] at hjv
          rw [lget_eq, vapp_eq, rep_eq]
          by_cases htp : t < fn.params.size + fn.nfree
          · have := (parV_take hb.2 (Nat.le_of_lt htp)).1
            have hjt : j = t := by omega
            subst hjt
            rw [List.getElem?_append_left (by omega)]
            obtain ⟨y, hy, hv⟩ := hA.get j args[j] (by simp [hargs, htp])
            have hlt : j < args'.size := by omega
            have : a.tmps.getD j Go.undef = y := by
              have hy' : args'[j]? = some y := by simpa using hy
              show (args' ++ Array.replicate (fn.ntmps - args'.size) Go.undef).getD j Go.undef = y
              rw [Array.getD_eq_getD_getElem?, Array.getElem?_append_left hlt, hy']
              rfl
            rw [this]
            have hja : j < args.length := by omega
            simpa [hja] using hv
          · have hmono := countV_mono (number ks 0 0) (show fn.params.size + fn.nfree ≤ t by omega)
            have := (parV_take hb.2 (Nat.le_refl _)).1
            have h1 : (args ++ List.replicate (countV (number ks 0 0) - (fn.params.size + fn.nfree)) undef)[j]?.getD undef = undef := by
              rw [List.getElem?_append_right (by omega), List.getElem?_replicate]
              split <;> rfl
            have h2 : a.tmps.getD t Go.undef = Go.undef := by
              show (args' ++ Array.replicate (fn.ntmps - args'.size) Go.undef).getD t Go.undef = Go.undef
              rw [Array.getD_eq_getD_getElem?, Array.getElem?_append_right (by omega), Array.getElem?_replicate]
              split <;> rfl
            rw [h1, h2]
            exact VRel.undef μ
        · exfalso
          have : ∀ (n s : Nat), slot (rep n none) s = none := by
            intro n
            induction n with
            | zero => intro s; rfl
            | succ n ih => intro s; cases s with
              | zero => rfl
              | succ s => exact ih s
          rw [this] at hs; cases hs
        · show (args' ++ Array.replicate (fn.ntmps - args'.size) Go.undef).size = fn.ntmps
          simp
          omega
        · have hjv := number_v hj
          have := countV_all hj
          rw [vapp_eq, rep_eq]
          simp
          omega
      have fin : ∀ {vs' ts' : List V} {ls' : Ls} {hh : H} {a' : Act} {w' : World}, Am.fin ⟨countV (number ks 0 0), countL (number ks 0 0), fn.params.size + fn.nfree, (compK T (number ks 0 0) code ⟨[], []⟩).1, rs⟩ vs' ls' hh = some (r, h') → KInv (number ks 0 0) fn.ntmps μ h w w.heap.size ⟨[], []⟩ vs' ts' ls' hh a' w' →
          a'.defers = [] ∧ ∃ v, (results fn a'.tmps).run P w' = .ok v w' ∧ ∃ μ', HRel μ' h' w' ∧ Fr μ h w μ' h' w' ∧ VRel μ' r v := by
        intro vs' ts' ls' hh a' w' hfin hI
        refine ⟨hI.df, ?_⟩
        obtain ⟨μ', r1, r2, r3⟩ := res_ok (P := P) hT hI
        unfold Am.fin at hfin
        split at hfin
        · rename_i v hv
          cases hfin
          obtain ⟨ys, q1, q2⟩ := r3 _ _ _ hres hv
          have q3 := results_ok q1
          cases q2 with | cons q4 q5 =>
          cases q5
          exact ⟨_, q3, μ', r1, r2.toFr, q4⟩
        · rename_i out hne hv
          cases hfin
          obtain ⟨ys, q1, q2⟩ := r3 _ _ _ hres hv
          have q3 := results_ok q1
          have hl : ys.length ≠ 1 := by
            rw [← q2.length]
            intro hl
            match out, hl with
            | [v], _ => exact hne v rfl
          rw [dif_neg hl] at q3
          exact ⟨_, q3, μ', r1, r2.toFr, .t (by simpa using q2)⟩
        · cases hfin
      split at he
      · rename_i vs' ts' ls' hh hev
        refine wp_mono (code_wp hT hcall hm (named ks) hlen n code _ _ _ _ _ a w _ _ _ _ _ hev I) fun e a' w' hq => ?_
        cases e with
        | normal => exact fin (ts' := []) he hq.2.weak
        | exit id => cases hq.1
        | ret => cases hq.1
        | outgrown => exact hq.elim
        | goto l => exact hq.elim
        | panic ch => exact hq.elim
      · rename_i vs' ts' ls' hh hev
        refine wp_mono (code_wp hT hcall hm (named ks) hlen n code _ _ _ _ _ a w _ _ _ _ _ hev I) fun e a' w' hq => ?_
        cases e with
        | normal => cases hq.1
        | exit id => cases hq.1
        | ret => exact fin he hq.2
        | outgrown => exact hq.elim
        | goto l => exact hq.elim
        | panic ch => exact hq.elim
      · cases he
  · cases hcomp
/-- the table of compiled functions is the program's -/
def TabOK (P : Program) (T : TT) (tab : Nat → Option CF) : Prop :=
  ∀ f cf, tab f = some cf → ∃ fn ks, P.funcs[f]? = some fn ∧ comp T ks fn = some cf ∧ (fn.name == "runtime.NumGoroutine") = false
/-- the summaries are true -/
def SumOK (P : Program) (sm : Nat → Option (List V → H → Option (V × H))) : Prop :=
  ∀ f g, sm f = some g → ∀ args h r h', g args h = some (r, h') → ∀ μ w args', HRel μ h w → VRs μ args args'.toList → CDoes P f args' w fun y w' => ∃ μ', HRel μ' h' w' ∧ Fr μ h w μ' h' w' ∧ VRel μ' r y
/-- evaluation is sound -/
theorem evF_ok (hT : TOk P T) (hm : P.follows .mixedOrders = true) {n : Nat} {sm : Nat → Option (List V → H → Option (V × H))} {tab : Nat → Option CF} (ht : TabOK P T tab) (hs : SumOK P sm) : ∀ d, CallOK P (evF n sm tab d) := by
  intro d
  induction d with
  | zero => intro f args h r h' e; simp [evF] at e
  | succ d ih =>
    intro f args h r h' e μ w args' hH hA
    simp only [evF] at e
    split at e
    · rename_i g hg; exact hs f g hg args h r h' e μ w args' hH hA
    · split at e
      · rename_i cf hcf
        obtain ⟨fn, ks, h1, h2, h3⟩ := ht f cf hcf
        exact run_ok hT ih hm h2 h1 h3 e hH hA
      · cases e
end Am
namespace Am
open Go
noncomputable section
abbrev Kt := V → Ls → H → CR
structure OpC where
  f : CallT → List V → List V → Ls → H → Kt → CR
/-! eliminators with closed minors -/
def cb {α : Type} (b : Bool) (x y : α) : α := @Bool.rec (fun _ => α) y x b
def no1 {A : Type} (_ : A) : CR := .no
def elI : V → (IntKind → Int → CR) → CR :=
  @V.rec (fun _ => (IntKind → Int → CR) → CR) (fun _ => Unit) (fun _ _ => .no) (fun k n f => f k n) (fun _ _ => .no) (fun _ => .no) (fun _ _ _ => .no) (fun _ => .no) (fun _ _ _ _ _ _ => .no) (fun _ => .no) (fun _ _ => .no) (fun _ _ _ _ _ _ => .no) (fun _ => .no) (fun _ _ _ _ => .no) (fun _ => .no) (fun _ _ _ => .no) (fun _ _ _ => .no) (fun _ _ => .no) (fun _ _ _ => .no) () (fun _ _ _ _ => ())
def elB : V → (Bool → CR) → CR :=
  @V.rec (fun _ => (Bool → CR) → CR) (fun _ => Unit) (fun b f => f b) (fun _ _ _ => .no) (fun _ _ => .no) (fun _ => .no) (fun _ _ _ => .no) (fun _ => .no) (fun _ _ _ _ _ _ => .no) (fun _ => .no) (fun _ _ => .no) (fun _ _ _ _ _ _ => .no) (fun _ => .no) (fun _ _ _ _ => .no) (fun _ => .no) (fun _ _ _ => .no) (fun _ _ _ => .no) (fun _ _ => .no) (fun _ _ _ => .no) () (fun _ _ _ _ => ())
def elA : V → (List V → CR) → CR :=
  @V.rec (fun _ => (List V → CR) → CR) (fun _ => Unit) (fun _ _ => .no) (fun _ _ _ => .no) (fun _ _ => .no) (fun _ => .no) (fun _ _ _ => .no) (fun _ => .no) (fun _ _ _ _ _ _ => .no) (fun _ => .no) (fun _ _ => .no) (fun _ _ _ _ _ _ => .no) (fun _ => .no) (fun _ _ _ _ => .no) (fun _ => .no) (fun cs _ f => f cs) (fun _ _ _ => .no) (fun _ _ => .no) (fun _ _ _ => .no) () (fun _ _ _ _ => ())
def elT : V → (List V → CR) → CR :=
  @V.rec (fun _ => (List V → CR) → CR) (fun _ => Unit) (fun _ _ => .no) (fun _ _ _ => .no) (fun _ _ => .no) (fun _ => .no) (fun _ _ _ => .no) (fun _ => .no) (fun _ _ _ _ _ _ => .no) (fun _ => .no) (fun _ _ => .no) (fun _ _ _ _ _ _ => .no) (fun _ => .no) (fun _ _ _ _ => .no) (fun _ => .no) (fun _ _ _ => .no) (fun cs _ f => f cs) (fun _ _ => .no) (fun _ _ _ => .no) () (fun _ _ _ _ => ())
def elLp : V → (Nat → CR) → CR :=
  @V.rec (fun _ => (Nat → CR) → CR) (fun _ => Unit) (fun _ _ => .no) (fun _ _ _ => .no) (fun _ _ => .no) (fun _ => .no) (fun _ _ _ => .no) (fun _ => .no) (fun _ _ _ _ _ _ => .no) (fun _ => .no) (fun _ _ => .no) (fun _ _ _ _ _ _ => .no) (fun _ => .no) (fun _ _ _ _ => .no) (fun _ => .no) (fun _ _ _ => .no) (fun _ _ _ => .no) (fun o f => f o) (fun _ _ _ => .no) () (fun _ _ _ _ => ())
/-- the cells of a value -/
def elCs : V → (List V → CR) → CR :=
  @V.rec (fun _ => (List V → CR) → CR) (fun _ => Unit) (fun x f => f [.b x]) (fun k n f => f [.i k n]) (fun x f => f [.s x]) (fun f => f [.pn]) (fun b o f => f [.p b o]) (fun f => f [.sn]) (fun b o n s c f => f [.sl b o n s c]) (fun f => f [.mn]) (fun r f => f [.m r]) (fun a b c _ _ f => f [.f a b c]) (fun f => f [.nf]) (fun t v _ f => f [.ic t v]) (fun f => f [.ni]) (fun cs _ f => f cs) (fun _ _ _ => .no) (fun _ _ => .no) (fun _ _ _ => .no) () (fun _ _ _ _ => ())
def elO {A : Type} : Option A → (A → CR) → CR := @Option.rec A (fun _ => (A → CR) → CR) (fun _ => .no) (fun a f => f a)
def elRs : Rs → Kt → CR := @Rs.rec (fun _ => Kt → CR) (fun _ => .no) (fun v ls h k => k v ls h)
abbrev Ct := List V → List V → Ls → H → CR
def elCR : CR → (Ex → Ct) → CR := @CR.rec (fun _ => (Ex → Ct) → CR) (fun _ => .no) (fun e vs ts ls h k => k e vs ts ls h)
def elEx : Ex → CR → (Nat → CR) → CR → CR := @Ex.rec (fun _ => CR → (Nat → CR) → CR → CR) (fun a _ _ => a) (fun i _ f _ => f i) (fun _ _ c => c)
/-! forcing -/
def fN {R : Type} : Nat → (Nat → R) → R := @Nat.rec (fun _ => (Nat → R) → R) (fun k => k 0) (fun m _ k => k (Nat.succ m))
def fI : Int → (Int → CR) → CR := @Int.rec (fun _ => (Int → CR) → CR) (fun a k => fN a fun a => k (.ofNat a)) (fun a k => fN a fun a => k (.negSucc a))
def fB : Bool → (Bool → CR) → CR := @Bool.rec (fun _ => (Bool → CR) → CR) (fun k => k false) (fun k => k true)
def fL {A R : Type} : List A → (List A → R) → R := @List.rec A (fun _ => (List A → R) → R) (fun k => k []) (fun x _ ih k => ih fun l => k (x :: l))
def fV : V → (V → CR) → CR :=
  @V.rec (fun _ => (V → CR) → CR) (fun _ => Unit) (fun x k => fB x fun x => k (.b x)) (fun kd n k => fI n fun n => k (.i kd n)) (fun x k => fL x fun x => k (.s x)) (fun k => k .pn)
    (fun b o k => fN b fun b => fN o fun o => k (.p b o)) (fun k => k .sn) (fun b o n sz c k => fN b fun b => fN o fun o => fN n fun n => k (.sl b o n sz c)) (fun k => k .mn)
    (fun r k => fN r fun r => k (.m r)) (fun n a b _ _ k => fL a fun a => fL b fun b => k (.f n a b)) (fun k => k .nf) (fun t v _ k => k (.ic t v)) (fun k => k .ni)
    (fun cs _ k => fL cs fun cs => k (.a cs)) (fun cs _ k => fL cs fun cs => k (.t cs)) (fun o k => fN o fun o => k (.lp o)) (fun o n k => fN o fun o => fN n fun n => k (.lsl o n)) () (fun _ _ _ _ => ())
/-! lists -/
def tlF : List V → List V := @List.rec V (fun _ => List V) [] (fun _ l _ => l)
def hdF : List V → V := @List.rec V (fun _ => V) undef (fun x _ _ => x)
structure LA where
  f : List V → V
def la : Nat → LA
  | 0 => ⟨hdF⟩
  | n + 1 => ⟨fun l => (la n).f (tlF l)⟩
structure LS where
  f : List V → V → List V
def ls_ : Nat → LS
  | 0 => ⟨fun l v => @List.rec V (fun _ => V → List V) (fun _ => []) (fun _ l _ v => v :: l) l v⟩
  | n + 1 => ⟨fun l v => @List.rec V (fun _ => V → List V) (fun _ => []) (fun x l _ v => x :: (ls_ n).f l v) l v⟩
structure Ac where
  f : List V → List V → V
def ac : X → Ac
  | .v j => ⟨fun vs _ => (la j).f vs⟩
  | .t j => ⟨fun _ ts => (la j).f ts⟩
  | .c x => ⟨fun _ _ => x⟩
def tlS : Ls → Ls := @List.rec (Option (List V)) (fun _ => Ls) [] (fun _ l _ => l)
def hdS : Ls → (List V → CR) → CR := @List.rec (Option (List V)) (fun _ => (List V → CR) → CR) (fun _ => .no) (fun x _ _ k => elO x k)
structure SA where
  f : Ls → (List V → CR) → CR
def sa : Nat → SA
  | 0 => ⟨hdS⟩
  | n + 1 => ⟨fun l => (sa n).f (tlS l)⟩
structure SS where
  f : Ls → List V → Ls
def ss : Nat → SS
  | 0 => ⟨fun l v => @List.rec (Option (List V)) (fun _ => List V → Ls) (fun _ => []) (fun _ l _ v => some v :: l) l v⟩
  | n + 1 => ⟨fun l v => @List.rec (Option (List V)) (fun _ => List V → Ls) (fun _ => []) (fun x l _ v => x :: (ss n).f l v) l v⟩
/-! arithmetic -/
def kn : IntKind → Nat := @IntKind.rec (fun _ => Nat) 0 1 2 3 4 5 6 7
def kq (a b : IntKind) : Bool := Nat.beq (kn a) (kn b)
def kl : IntKind → Nat := @IntKind.rec (fun _ => Nat) 128 32768 2147483648 9223372036854775808 256 65536 4294967296 18446744073709551616
def km : IntKind → Nat := @IntKind.rec (fun _ => Nat) 256 65536 4294967296 18446744073709551616 256 65536 4294967296 18446744073709551616
def ks : IntKind → Bool := @IntKind.rec (fun _ => Bool) true true true true false false false false
def wk (k : IntKind) (n : Int) (f : V → CR) : CR :=
  @Int.rec (fun _ => CR) (fun a => cb (ks k) (cb (Nat.ble (Nat.succ a) (kl k)) (fN a fun a => f (.i k (.ofNat a))) (fI (k.wrap (.ofNat a)) fun n => f (.i k n))) (fN (Nat.mod a (km k)) fun a => f (.i k (.ofNat a))))
    (fun a => cb (ks k) (cb (Nat.ble (Nat.succ a) (kl k)) (fN a fun a => f (.i k (.negSucc a))) (fI (k.wrap (.negSucc a)) fun n => f (.i k n))) (fN (Nat.sub (km k) (Nat.succ (Nat.mod a (km k)))) fun a => f (.i k (.ofNat a)))) n
def elInt (x y : Int) (f : Nat → Nat → CR) (g : CR) : CR := @Int.rec (fun _ => CR) (fun a => @Int.rec (fun _ => CR) (fun b => f a b) (fun _ => g) y) (fun _ => g) x
abbrev At := IntKind → Int → Int → (V → CR) → CR
def q_add : At := fun k x y f => elInt x y (fun a b => wk k (.ofNat (Nat.add a b)) f) (wk k (Int.add x y) f)
def q_sub : At := fun k x y f => elInt x y (fun a b => cb (Nat.ble b a) (wk k (.ofNat (Nat.sub a b)) f) (wk k (.negSucc (Nat.pred (Nat.sub b a))) f)) (wk k (Int.sub x y) f)
def q_mul : At := fun k x y f => elInt x y (fun a b => wk k (.ofNat (Nat.mul a b)) f) (wk k (Int.mul x y) f)
def q_quo : At := fun k x y f => elInt x y (fun a b => cb (Nat.beq b 0) .no (wk k (.ofNat (Nat.div a b)) f)) (cb (ieq y 0) .no (wk k (Int.tdiv x y) f))
def q_rem : At := fun k x y f => elInt x y (fun a b => cb (Nat.beq b 0) .no (fN (Nat.mod a b) fun a => f (.i k (.ofNat a)))) (cb (ieq y 0) .no (fI (Int.tmod x y) fun n => f (.i k n)))
def q_bit (op : BinOp) : At := fun k x y f => elO (bitsOp op k x y) fun n => fI n fun n => f (.i k n)
def q_and : At := fun k x y f => elInt x y (fun a b => cb (Nat.ble (Nat.succ a) (km k)) (cb (Nat.ble (Nat.succ b) (km k)) (wk k (.ofNat (Nat.land a b)) f) .no) .no) (q_bit .and k x y f)
def q_or : At := fun k x y f => elInt x y (fun a b => cb (Nat.ble (Nat.succ a) (km k)) (cb (Nat.ble (Nat.succ b) (km k)) (wk k (.ofNat (Nat.lor a b)) f) .no) .no) (q_bit .or k x y f)
def q_no : At := fun _ _ _ _ => .no
def q_cmp (t : Nat → Nat → Bool) (s : Int → Int → Bool) : At := fun _ x y f => elInt x y (fun a b => fB (t a b) fun b => f (.b b)) (fB (s x y) fun b => f (.b b))
def q_eql : At := q_cmp (fun a b => Nat.beq a b) (fun x y => ieq x y)
def q_neq : At := q_cmp (fun a b => cb (Nat.beq a b) false true) (fun x y => !ieq x y)
def q_lss : At := q_cmp (fun a b => Nat.ble (Nat.succ a) b) (fun x y => ilt x y)
def q_leq : At := q_cmp (fun a b => Nat.ble a b) (fun x y => !ilt y x)
def q_gtr : At := q_cmp (fun a b => Nat.ble (Nat.succ b) a) (fun x y => ilt y x)
def q_geq : At := q_cmp (fun a b => Nat.ble b a) (fun x y => !ilt x y)
structure AC where
  f : At
def arC : BinOp → AC
  | .add => ⟨q_add⟩ | .sub => ⟨q_sub⟩ | .mul => ⟨q_mul⟩ | .quo => ⟨q_quo⟩ | .rem => ⟨q_rem⟩ | .and => ⟨q_and⟩ | .or => ⟨q_or⟩ | .xor => ⟨q_bit .xor⟩ | .andNot => ⟨q_bit .andNot⟩
  | .shl => ⟨q_no⟩ | .shr => ⟨q_no⟩
  | .eql => ⟨q_eql⟩ | .neq => ⟨q_neq⟩ | .lss => ⟨q_lss⟩ | .leq => ⟨q_leq⟩ | .gtr => ⟨q_gtr⟩ | .geq => ⟨q_geq⟩
def kb : IntKind → Nat := @IntKind.rec (fun _ => Nat) 8 16 32 64 8 16 32 64
def q_shl : At := fun k x y f => elInt x y (fun a b => wk k (.ofNat (Nat.mul a (Nat.pow 2 (cb (Nat.ble (Nat.succ b) (kb k)) b (kb k))))) f) (elO (shiftOp .shl k x y) fun v => fV v f)
def q_shr : At := fun k x y f => elInt x y (fun a b => fN (Nat.div a (Nat.pow 2 (cb (Nat.ble (Nat.succ b) (kb k)) b (kb k)))) fun a => f (.i k (.ofNat a))) (elO (shiftOp .shr k x y) fun v => fV v f)
/-! ops -/
def gen (e : CallT → List V → List V → Ls → H → Rs) : OpC := ⟨fun call vs ts ls h k => elRs (e call vs ts ls h) fun v ls h => fV v fun v => k v ls h⟩
def o_mv (x : X) : OpC := ⟨fun _ vs ts ls h k => fV ((ac x).f vs ts) fun v => k v ls h⟩
def binS (q : At) (x y : X) : OpC := ⟨fun _ vs ts ls h k => elI ((ac x).f vs ts) fun kx a => elI ((ac y).f vs ts) fun _ b => q kx a b fun v => k v ls h⟩
def binQ (op : BinOp) (x y : X) : OpC := ⟨fun call vs ts ls h k => isII ((ac x).f vs ts)
    (elI ((ac x).f vs ts) fun kx a => elI ((ac y).f vs ts) fun ky b => cb (kq kx ky) ((arC op).f kx a b fun v => k v ls h) .no)
    ((gen (e_bin op x y)).f call vs ts ls h k)⟩
  where isII : V → CR → CR → CR :=
  @V.rec (fun _ => CR → CR → CR) (fun _ => Unit) (fun _ _ c => c) (fun _ _ c _ => c) (fun _ _ c => c) (fun _ c => c) (fun _ _ _ c => c) (fun _ c => c) (fun _ _ _ _ _ _ c => c) (fun _ c => c) (fun _ _ c => c) (fun _ _ _ _ _ _ c => c) (fun _ c => c) (fun _ _ _ _ c => c) (fun _ c => c) (fun _ _ _ c => c) (fun _ _ _ c => c) (fun _ _ c => c) (fun _ _ _ c => c) () (fun _ _ _ _ => ())
def o_bin (op : BinOp) (x y : X) : OpC := match op with
  | .shl => binS q_shl x y
  | .shr => binS q_shr x y
  | _ => binQ op x y
def o_un (op : UnOp) (x : X) : OpC := match op with
  | .not => ⟨fun _ vs ts ls h k => elB ((ac x).f vs ts) fun b => k (.b (cb b false true)) ls h⟩
  | _ => gen (e_un op x)
def o_pick (c a b : X) : OpC := ⟨fun _ vs ts ls h k => elB ((ac c).f vs ts) fun t => fV (cb t ((ac a).f vs ts) ((ac b).f vs ts)) fun v => k v ls h⟩
def o_cvI (kd : IntKind) (x : X) : OpC := ⟨fun _ vs ts ls h k => elI ((ac x).f vs ts) fun _ n => wk kd n fun v => k v ls h⟩
def vlenF : List V → Nat → Nat := @List.rec V (fun _ => Nat → Nat) (fun n => n) (fun _ _ ih n => ih (Nat.succ n))
def o_ext (x : X) (i : Nat) : OpC := ⟨fun _ vs ts ls h k => elT ((ac x).f vs ts) fun l => cb (Nat.ble (Nat.succ i) (vlenF l 0)) (fV ((la i).f l) fun v => k v ls h) .no⟩
def dropF : Nat → List V → List V := @Nat.rec (fun _ => List V → List V) (fun l => l) (fun _ ih l => ih (tlF l))
def takeK : Nat → List V → (List V → CR) → CR := @Nat.rec (fun _ => List V → (List V → CR) → CR) (fun _ k => k []) (fun _ ih l k => @List.rec V (fun _ => CR) .no (fun x l _ => ih l fun r => k (x :: r)) l)
/-- read -/
def rdK (cs : List V) (o : Nat) (g : Bool) (sz : Nat) (k : V → CR) : CR :=
  cb g (takeK sz (dropF o cs) fun r => k (.a r)) (cb (Nat.beq sz 1) (@List.rec V (fun _ => CR) .no (fun x _ _ => fV x k) (dropF o cs)) .no)
structure LP where
  f : List V → (Nat → CR) → CR
def plc (d : Option Nat) : LP := match d with
  | none => ⟨fun _ k => k 0⟩
  | some d => ⟨fun ts k => elLp ((la d).f ts) k⟩
def elNat (v : V) (k : Nat → CR) : CR := elI v fun _ n => @Int.rec (fun _ => CR) k (fun _ => .no) n
def o_idx (x i : X) (len : Nat) (g : Bool) (sz : Nat) : OpC := ⟨fun _ vs ts ls h k => elA ((ac x).f vs ts) fun cs => elNat ((ac i).f vs ts) fun n => cb (Nat.ble (Nat.succ n) len) (rdK cs (Nat.mul n sz) g sz fun v => k v ls h) .no⟩
def elP : V × H → (V → H → CR) → CR := @Prod.rec V H (fun _ => (V → H → CR) → CR) (fun v h f => f v h)
structure AsC where
  f : List V → List V → (List V → CR) → CR
def acs : List X → AsC
  | [] => ⟨fun _ _ k => k []⟩
  | x :: r => ⟨fun vs ts k => fV ((ac x).f vs ts) fun v => (acs r).f vs ts fun l => k (v :: l)⟩
def o_call (f : Nat) (as : List X) : OpC := ⟨fun call vs ts ls h k => (acs as).f vs ts fun l => elO (call f l h) fun p => elP p fun v h => fV v fun v => k v ls h⟩
def setK (s : Nat) (ls : Ls) (cs : List V) (k : Ls → CR) : CR := fL cs fun cs => fL ((ss s).f ls cs) k
def o_lal (s : Nat) (zero : List V) : OpC := ⟨fun _ _ _ ls h k => fL ((ss s).f ls zero) fun ls => k undef ls h⟩
def o_lbx (s : Nat) (x : X) : OpC := ⟨fun _ vs ts ls h k => elCs ((ac x).f vs ts) fun cs => setK s ls cs fun ls => k undef ls h⟩
def o_lfa (s : Nat) (d : Option Nat) (o : Nat) : OpC := ⟨fun _ _ ts ls h k => (plc d).f ts fun p => (sa s).f ls fun _ => fN (Nat.add p o) fun p => k (.lp p) ls h⟩
def o_lia (s : Nat) (d : Option Nat) (i : X) (len sz : Nat) : OpC := ⟨fun _ vs ts ls h k => (plc d).f ts fun p => (sa s).f ls fun _ => elNat ((ac i).f vs ts) fun n => cb (Nat.ble (Nat.succ n) len) (fN (Nat.add p (Nat.mul n sz)) fun p => k (.lp p) ls h) .no⟩
def o_lld (s : Nat) (d : Option Nat) (g : Bool) (sz : Nat) : OpC := ⟨fun _ _ ts ls h k => (plc d).f ts fun p => (sa s).f ls fun cs => rdK cs p g sz fun v => k v ls h⟩
/-- write over, from o on -/
def ovK (cs : List V) : Nat → List V → (List V → CR) → CR := @List.rec V (fun _ => Nat → List V → (List V → CR) → CR)
  (fun _ new k => @List.rec V (fun _ => CR) (k []) (fun _ _ _ => .no) new)
  (fun c cs ih o new k => @List.rec V (fun _ => CR) (k (c :: cs)) (fun v new' _ => @Nat.rec (fun _ => CR) (ih 0 new' fun l => k (v :: l)) (fun o _ => ih o new fun l => k (c :: l)) o) new) cs
def o_lst (s : Nat) (d : Option Nat) (x : X) (sz : Nat) : OpC := match sz with | 0 => gen (e_lst s d x 0) | sz + 1 => ⟨fun _ vs ts ls h k => (plc d).f ts fun p => (sa s).f ls fun cs => elCs ((ac x).f vs ts) fun new => cb (Nat.beq (vlenF new 0) (Nat.succ sz)) (ovK cs p new fun cs => fL ((ss s).f ls cs) fun ls => k undef ls h) .no⟩
def qO : O → OpC
  | .mv x0 => o_mv x0
  | .pick x0 x1 x2 => o_pick x0 x1 x2
  | .un x0 x1 => o_un x0 x1
  | .bin x0 x1 x2 => o_bin x0 x1 x2
  | .eqv x0 x1 x2 x3 => gen (e_eqv x0 x1 x2 x3)
  | .cvI x0 x1 => o_cvI x0 x1
  | .same x0 => gen (e_same x0)
  | .b2s x0 => gen (e_b2s x0)
  | .s2b x0 => gen (e_s2b x0)
  | .i2s x0 => gen (e_i2s x0)
  | .ext x0 x1 => o_ext x0 x1
  | .fld x0 x1 x2 x3 => gen (e_fld x0 x1 x2 x3)
  | .idx x0 x1 x2 x3 x4 => o_idx x0 x1 x2 x3 x4
  | .sidx x0 x1 => gen (e_sidx x0 x1)
  | .bld x0 x1 => gen (e_bld x0 x1)
  | .lenS x0 => gen (e_lenS x0)
  | .lenL x0 => gen (e_lenL x0)
  | .lenA x0 => gen (e_lenA x0)
  | .lenM x0 => gen (e_lenM x0)
  | .capL x0 => gen (e_capL x0)
  | .mnx x0 x1 => gen (e_mnx x0 x1)
  | .sub x0 x1 x2 x3 x4 => gen (e_sub x0 x1 x2 x3 x4)
  | .ssub x0 x1 x2 => gen (e_ssub x0 x1 x2)
  | .asub x0 x1 x2 x3 x4 => gen (e_asub x0 x1 x2 x3 x4)
  | .nilc x0 => gen (e_nilc x0)
  | .mkf x0 x1 x2 => gen (e_mkf x0 x1 x2)
  | .mki x0 x1 => gen (e_mki x0 x1)
  | .lal x0 x1 => o_lal x0 x1
  | .lbx x0 x1 => o_lbx x0 x1
  | .lbs x0 x1 x2 x3 x4 => gen (e_lbs x0 x1 x2 x3 x4)
  | .lfa x0 x1 x2 => o_lfa x0 x1 x2
  | .lia x0 x1 x2 x3 x4 => o_lia x0 x1 x2 x3 x4
  | .lld x0 x1 x2 x3 => o_lld x0 x1 x2 x3
  | .lst x0 x1 x2 x3 => o_lst x0 x1 x2 x3
  | .lsub x0 x1 x2 x3 x4 x5 => gen (e_lsub x0 x1 x2 x3 x4 x5)
  | .lb2s x0 x1 => gen (e_lb2s x0 x1)
  | .hal x0 => gen (e_hal x0)
  | .hbx x0 => gen (e_hbx x0)
  | .hbs x0 x1 x2 x3 => gen (e_hbs x0 x1 x2 x3)
  | .mks x0 x1 x2 x3 x4 => gen (e_mks x0 x1 x2 x3 x4)
  | .fa x0 x1 => gen (e_fa x0 x1)
  | .ia x0 x1 x2 => gen (e_ia x0 x1 x2)
  | .iaA x0 x1 x2 x3 => gen (e_iaA x0 x1 x2 x3)
  | .ld x0 x1 x2 => gen (e_ld x0 x1 x2)
  | .st x0 x1 x2 => gen (e_st x0 x1 x2)
  | .app x0 x1 x2 x3 => gen (e_app x0 x1 x2 x3)
  | .appS x0 x1 x2 => gen (e_appS x0 x1 x2)
  | .appL x0 x1 x2 x3 x4 => gen (e_appL x0 x1 x2 x3 x4)
  | .appM x0 x1 x2 x3 x4 => gen (e_appM x0 x1 x2 x3 x4)
  | .cpy x0 x1 x2 => gen (e_cpy x0 x1 x2)
  | .cpyS x0 x1 => gen (e_cpyS x0 x1)
  | .clr x0 x1 x2 => gen (e_clr x0 x1 x2)
  | .mkm  => gen (e_mkm )
  | .look x0 x1 x2 x3 x4 => gen (e_look x0 x1 x2 x3 x4)
  | .mup x0 x1 x2 x3 => gen (e_mup x0 x1 x2 x3)
  | .mdel x0 x1 x2 => gen (e_mdel x0 x1 x2)
  | .mclr x0 => gen (e_mclr x0)
  | .usd x0 => gen (e_usd x0)
  | .uss x0 x1 => gen (e_uss x0 x1)
  | .call x0 x1 => o_call x0 x1
  | .callv x0 x1 => gen (e_callv x0 x1)
  | .no  => gen (e_no )

structure RC where
  f : CallT → List V → List V → Ls → H → CR
structure DC where
  f : List V → V → List V
def dc (d : Option Nat) : DC := match d with
  | none => ⟨fun vs _ => vs⟩
  | some j => ⟨fun vs v => (ls_ j).f vs v⟩
def stepN (o : OpC) (r : RC) : RC := ⟨fun call vs ts ls h => o.f call vs ts ls h fun v ls h => r.f call vs (v :: ts) ls h⟩
def stepD (o : OpC) (d : DC) (r : RC) : RC := ⟨fun call vs ts ls h => o.f call vs ts ls h fun v ls h => r.f call (d.f vs v) (v :: ts) ls h⟩
def stepG (g : Option (Nat × Bool)) (o : OpC) (d : DC) (r : RC) : RC := ⟨fun call vs ts ls h => cb (wantedG ts g) ((stepD o d r).f call vs ts ls h) (r.f call (d.f vs undef) (undef :: ts) ls h)⟩
def qOps : List RO → RC
  | [] => ⟨fun _ vs ts ls h => .ok .n vs ts ls h⟩
  | ⟨none, none, o⟩ :: r => stepN (qO o) (qOps r)
  | ⟨none, d, o⟩ :: r => stepD (qO o) (dc d) (qOps r)
  | ⟨g, d, o⟩ :: r => stepG g (qO o) (dc d) (qOps r)
structure En where
  call : CallT
  N : Nat
structure KC where
  f : En → List V → List V → Ls → H → CR
def iterQ (f : List V → Ls → H → CR) : Nat → List V → Ls → H → CR :=
  @Nat.rec (fun _ => List V → Ls → H → CR) (fun _ _ _ => .no) (fun _ ih vs ls h => elCR (f vs ls h) fun e vs ts ls h => elEx e (fL vs fun vs => ih vs ls h) (fun i => .ok (.x i) vs ts ls h) (.ok .r vs ts ls h))
def seqQ (a b : KC) : KC := ⟨fun e vs ts ls h => elCR (a.f e vs ts ls h) fun x vs ts ls h => elEx x (b.f e vs ts ls h) (fun i => .ok (.x i) vs ts ls h) (.ok .r vs ts ls h)⟩
def condQ (x : Ac) (a b : KC) : KC := ⟨fun e vs ts ls h => elB (x.f vs ts) fun t => cb t (a.f e vs ts ls h) (b.f e vs ts ls h)⟩
def blockQ (id : Nat) (b : KC) : KC := ⟨fun e vs ts ls h => elCR (b.f e vs ts ls h) fun x vs ts ls h => elEx x (.ok .n vs ts ls h) (fun i => cb (Nat.beq i id) (.ok .n vs ts ls h) (.ok (.x i) vs ts ls h)) (.ok .r vs ts ls h)⟩
def loopQ (b : KC) : KC := ⟨fun e vs _ ls h => iterQ (fun vs ls h => b.f e vs [] ls h) e.N vs ls h⟩
def dregQ (ops : List RO) (fl : List (Nat × Option Nat)) : KC := match fl with
  | [] => ⟨fun e vs _ ls h => (qOps ops).f e.call vs [] ls h⟩
  | x :: fl => ⟨fun e vs _ ls h => evK e.call e.N (.dreg ops (x :: fl)) vs [] ls h⟩
def qK : K → KC
  | .skip => ⟨fun _ vs ts ls h => .ok .n vs ts ls h⟩
  | .bad => ⟨fun _ _ _ _ _ => .no⟩
  | .reg ops => ⟨fun e vs _ ls h => (qOps ops).f e.call vs [] ls h⟩
  | .dreg ops fl => dregQ ops fl
  | .seq a b => seqQ (qK a) (qK b)
  | .cond x a b => condQ (ac x) (qK a) (qK b)
  | .block id b => blockQ id (qK b)
  | .loop b => loopQ (qK b)
  | .exit id => ⟨fun _ vs ts ls h => .ok (.x id) vs ts ls h⟩
  | .ret => ⟨fun _ vs ts ls h => .ok .r vs ts ls h⟩
def finQ (c : CF) (r : CR) : Option (V × H) := @CR.rec (fun _ => Option (V × H)) none (fun e vs _ ls h => @Ex.rec (fun _ => Option (V × H)) (fin c vs ls h) (fun _ => none) (fin c vs ls h) e) r
def runQ (N : Nat) (call : CallT) (c : CF) (args : List V) (h : H) : Option (V × H) :=
  cb (Nat.beq (vlenF args 0) c.np) (finQ c ((qK c.body).f ⟨call, N⟩ (vapp args (rep (c.nv - c.np) undef)) [] (rep c.nl none) h)) none
def evQ (N : Nat) (sm : Nat → Option (List V → H → Option (V × H))) (tab : Nat → Option CF) (d : Nat) : CallT :=
  @Nat.rec (fun _ => CallT) (fun _ _ _ => none) (fun _ ih f args h => @Option.rec _ (fun _ => Option (V × H)) (@Option.rec _ (fun _ => Option (V × H)) none (fun c => runQ N ih c args h) (tab f)) (fun g => g args h) (sm f)) d
end
end Am
namespace Am
open Go

@[simp] theorem cb_eq {α : Type} (b : Bool) (x y : α) : cb b x y = bif b then x else y := by cases b <;> rfl
@[simp] theorem fN_eq {R : Type} (n : Nat) (k : Nat → R) : fN n k = k n := by cases n <;> rfl
@[simp] theorem fI_eq (n : Int) (k : Int → CR) : fI n k = k n := by cases n <;> simp [fI]
@[simp] theorem fB_eq (b : Bool) (k : Bool → CR) : fB b k = k b := by cases b <;> rfl
@[simp] theorem fL_eq {A R : Type} (l : List A) (k : List A → R) : fL l k = k l := by
  induction l generalizing k with
  | nil => rfl
  | cons x l ih => exact ih _
@[simp] theorem fV_eq (v : V) (k : V → CR) : fV v k = k v := by
  cases v <;> simp [fV]
theorem tlF_cons (x : V) (l : List V) : tlF (x :: l) = l := rfl
@[simp] theorem la_eq (n : Nat) (l : List V) : (la n).f l = lget l n := by
  induction n generalizing l with
  | zero => cases l <;> rfl
  | succ n ih => cases l with
    | nil => simp [la, ih, tlF]; cases n <;> rfl
    | cons x l => simp [la, ih, tlF_cons, lget]
@[simp] theorem lsQ_eq (n : Nat) (l : List V) (v : V) : (ls_ n).f l v = lset l n v := by
  induction n generalizing l with
  | zero => cases l <;> rfl
  | succ n ih => cases l with
    | nil => rfl
    | cons x l => simp [ls_, lset, ih]
@[simp] theorem ac_eq (x : X) (vs ts : List V) : (ac x).f vs ts = getX vs ts x := by
  cases x <;> simp [ac, getX]
theorem elO_eq {A : Type} (o : Option A) (f : A → CR) : elO o f = match o with | none => .no | some a => f a := by cases o <;> rfl
@[simp] theorem elO_none {A : Type} (f : A → CR) : elO none f = .no := rfl
@[simp] theorem elO_some {A : Type} (a : A) (f : A → CR) : elO (some a) f = f a := rfl
@[simp] theorem elRs_no (f : Kt) : elRs .no f = .no := rfl
@[simp] theorem elRs_ok (v : V) (ls : Ls) (h : H) (f : Kt) : elRs (.ok v ls h) f = f v ls h := rfl
@[simp] theorem sa_eq (n : Nat) (l : Ls) (k : List V → CR) : (sa n).f l k = elO (slot l n) k := by
  induction n generalizing l with
  | zero => cases l <;> rfl
  | succ n ih => cases l with
    | nil => simp [sa, ih, tlS]; cases n <;> rfl
    | cons x l => simp only [sa, ih, slot]; rfl
@[simp] theorem ss_eq (n : Nat) (l : Ls) (v : List V) : (ss n).f l v = setSlot l n v := by
  induction n generalizing l with
  | zero => cases l <;> rfl
  | succ n ih => cases l with
    | nil => rfl
    | cons x l => simp [ss, setSlot, ih]
theorem km_eq (k : IntKind) : km k = 2 ^ k.bits := by cases k <;> rfl
theorem kl_eq (k : IntKind) : kl k = klim k := by cases k <;> rfl
theorem ks_eq (k : IntKind) : ks k = k.signed := by cases k <;> rfl
theorem kq_eq (a b : IntKind) : kq a b = keq a b := by cases a <;> cases b <;> rfl
theorem kb_eq (k : IntKind) : kb k = k.bits := by cases k <;> rfl
theorem ble_blt (a b : Nat) : Nat.ble (Nat.succ a) b = Nat.blt a b := rfl
theorem wrap_un (k : IntKind) (h : k.signed = false) (n : Int) : k.wrap n = n % 2 ^ k.bits := by simp [IntKind.wrap, h]
@[simp] theorem wk_eq (k : IntKind) (n : Int) (f : V → CR) : wk k n f = f (.i k (wr k n)) := by
  cases n with
  | ofNat a =>
    simp only [wk, cb_eq, fN_eq, fI_eq, ks_eq, kl_eq]
    cases hs : k.signed with
    | true =>
      simp only [cond_true, wr, ble_blt]
      cases Nat.blt a (klim k) <;> rfl
    | false =>
      simp only [cond_false]
      rw [wr_eq, wrap_un k hs, km_eq]
      congr 2
  | negSucc a =>
    simp only [wk, cb_eq, fN_eq, fI_eq, ks_eq, kl_eq]
    cases hs : k.signed with
    | true =>
      simp only [cond_true, wr, ksg_eq, hs, Bool.true_and, ble_blt]
      cases Nat.blt a (klim k) <;> rfl
    | false =>
      simp only [cond_false]
      rw [wr_eq, wrap_un k hs, km_eq]
      congr 2
      have hp : (0 : Int) < 2 ^ k.bits := Int.pow_pos (by omega)
      rw [Int.negSucc_emod _ hp]
      have hm : a % 2 ^ k.bits < 2 ^ k.bits := Nat.mod_lt _ (Nat.two_pow_pos _)
      have e : ((a : Int) % 2 ^ k.bits) = ((a % 2 ^ k.bits : Nat) : Int) := by simp
      have e2 : ((2 : Int) ^ k.bits) = ((2 ^ k.bits : Nat) : Int) := by simp
      rw [e, e2]
      show ((2 ^ k.bits - (a % 2 ^ k.bits + 1) : Nat) : Int) = _
      omega
theorem elInt_eq (x y : Int) (f : Nat → Nat → CR) (g : CR) (r : CR) (h1 : ∀ a b : Nat, x = .ofNat a → y = .ofNat b → f a b = r) (h2 : g = r) : elInt x y f g = r := by
  cases x with
  | ofNat a => cases y with
    | ofNat b => exact h1 a b rfl rfl
    | negSucc b => exact h2
  | negSucc a => cases y <;> exact h2

/-! arithmetic -/
theorem kmod_km (k : IntKind) : km k = kmod k := by cases k <;> rfl
theorem elMap (o : Option Int) (k : IntKind) (f : V → CR) : elO o (fun n => f (.i k n)) = elO (o.map (.i k)) f := by cases o <;> rfl
theorem ieq0 (b : Nat) : ieq (.ofNat b) 0 = Nat.beq b 0 := rfl
theorem q_add_eq (k : IntKind) (x y : Int) (f : V → CR) : q_add k x y f = f (.i k (wr k (Int.add x y))) := by
  refine elInt_eq _ _ _ _ _ ?_ (by simp)
  rintro a b rfl rfl; simp only [wk_eq]; rfl
theorem q_mul_eq (k : IntKind) (x y : Int) (f : V → CR) : q_mul k x y f = f (.i k (wr k (Int.mul x y))) := by
  refine elInt_eq _ _ _ _ _ ?_ (by simp)
  rintro a b rfl rfl; simp only [wk_eq]; rfl
theorem q_sub_eq (k : IntKind) (x y : Int) (f : V → CR) : q_sub k x y f = f (.i k (wr k (Int.sub x y))) := by
  refine elInt_eq _ _ _ _ _ ?_ (by simp)
  rintro a b rfl rfl
  simp only [wk_eq, cb_eq]
  cases hb : Nat.ble b a with
  | true =>
    have h : b ≤ a := by simpa using hb
    simp only [cond_true]
    have : (Int.ofNat (Nat.sub a b)) = Int.sub (.ofNat a) (.ofNat b) := by
      show ((a - b : Nat) : Int) = (a : Int) - b
      omega
    rw [this]
  | false =>
    have h : ¬ b ≤ a := fun h => by rw [Nat.ble_eq_true_of_le h] at hb; cases hb
    simp only [cond_false]
    have : (Int.negSucc (Nat.pred (Nat.sub b a))) = Int.sub (.ofNat a) (.ofNat b) := by
      show Int.negSucc (b - a - 1) = (a : Int) - b
      rw [Int.negSucc_eq]; omega
    rw [this]
theorem q_quo_eq (k : IntKind) (x y : Int) (f : V → CR) : q_quo k x y f = elO (bif ieq y 0 then none else some (.i k (wr k (Int.tdiv x y)))) f := by
  refine elInt_eq _ _ _ _ _ ?_ ?_
  · rintro a b rfl rfl
    simp only [wk_eq, cb_eq, ieq0]
    cases Nat.beq b 0 <;> rfl
  · simp only [wk_eq, cb_eq]; cases ieq y 0 <;> rfl
theorem q_rem_eq (k : IntKind) (x y : Int) (f : V → CR) : q_rem k x y f = elO (bif ieq y 0 then none else some (.i k (Int.tmod x y))) f := by
  refine elInt_eq _ _ _ _ _ ?_ ?_
  · rintro a b rfl rfl
    simp only [fN_eq, cb_eq, ieq0]
    cases Nat.beq b 0 <;> rfl
  · simp only [fI_eq, cb_eq]; cases ieq y 0 <;> rfl
theorem q_bit_eq (op : BinOp) (k : IntKind) (x y : Int) (f : V → CR) : q_bit op k x y f = elO ((bitsOp op k x y).map (.i k)) f := by
  simp only [q_bit, fI_eq]; exact elMap _ _ _
theorem q_and_eq (k : IntKind) (x y : Int) (f : V → CR) : q_and k x y f = elO ((bitsOp .and k x y).map (.i k)) f := by
  refine elInt_eq _ _ _ _ _ ?_ (q_bit_eq _ _ _ _ _)
  rintro a b rfl rfl
  simp only [wk_eq, cb_eq, bitsOp, ble_blt, kmod_km]
  cases Nat.blt a (kmod k) <;> cases Nat.blt b (kmod k) <;> rfl
theorem q_or_eq (k : IntKind) (x y : Int) (f : V → CR) : q_or k x y f = elO ((bitsOp .or k x y).map (.i k)) f := by
  refine elInt_eq _ _ _ _ _ ?_ (q_bit_eq _ _ _ _ _)
  rintro a b rfl rfl
  simp only [wk_eq, cb_eq, bitsOp, ble_blt, kmod_km]
  cases Nat.blt a (kmod k) <;> cases Nat.blt b (kmod k) <;> rfl
theorem q_cmp_eq (t : Nat → Nat → Bool) (s : Int → Int → Bool) (k : IntKind) (x y : Int) (f : V → CR) (h : ∀ a b, t a b = s (.ofNat a) (.ofNat b)) : q_cmp t s k x y f = f (.b (s x y)) := by
  refine elInt_eq _ _ _ _ _ ?_ (by simp)
  rintro a b rfl rfl
  simp only [fB_eq, h]
theorem not_blt (a b : Nat) : Nat.ble b a = !Nat.blt a b := by
  rw [Bool.eq_iff_iff, Nat.ble_eq, Bool.not_eq_true', ← Bool.not_eq_true, Nat.blt_eq]; omega
theorem arC_eq (op : BinOp) (h1 : op ≠ .shl) (h2 : op ≠ .shr) (k : IntKind) (x y : Int) (f : V → CR) : (arC op).f k x y f = elO (arith op k x y) f := by
  cases op with
  | add => exact q_add_eq _ _ _ _
  | sub => exact q_sub_eq _ _ _ _
  | mul => exact q_mul_eq _ _ _ _
  | quo => exact q_quo_eq _ _ _ _
  | rem => exact q_rem_eq _ _ _ _
  | and => exact q_and_eq _ _ _ _
  | or => exact q_or_eq _ _ _ _
  | xor => exact q_bit_eq _ _ _ _ _
  | andNot => exact q_bit_eq _ _ _ _ _
  | shl => exact absurd rfl h1
  | shr => exact absurd rfl h2
  | eql => exact q_cmp_eq (fun a b => Nat.beq a b) (fun x y => ieq x y) k x y f (fun a b => rfl)
  | neq => exact q_cmp_eq (fun a b => cb (Nat.beq a b) false true) (fun x y => !ieq x y) k x y f (fun a b => by show cb (Nat.beq a b) false true = !Nat.beq a b; cases Nat.beq a b <;> rfl)
  | lss => exact q_cmp_eq (fun a b => Nat.ble (Nat.succ a) b) (fun x y => ilt x y) k x y f (fun a b => rfl)
  | leq => exact q_cmp_eq (fun a b => Nat.ble a b) (fun x y => !ilt y x) k x y f (fun a b => not_blt _ _)
  | gtr => exact q_cmp_eq (fun a b => Nat.ble (Nat.succ b) a) (fun x y => ilt y x) k x y f (fun a b => rfl)
  | geq => exact q_cmp_eq (fun a b => Nat.ble b a) (fun x y => !ilt x y) k x y f (fun a b => not_blt _ _)
theorem q_shl_eq (k : IntKind) (x y : Int) (f : V → CR) : q_shl k x y f = elO (shiftOp .shl k x y) f := by
  refine elInt_eq _ _ _ _ _ ?_ (by simp)
  rintro a b rfl rfl
  simp only [wk_eq, cb_eq, ble_blt, kb_eq, shiftOp]
  rfl
theorem q_shr_eq (k : IntKind) (x y : Int) (f : V → CR) : q_shr k x y f = elO (shiftOp .shr k x y) f := by
  refine elInt_eq _ _ _ _ _ ?_ (by simp)
  rintro a b rfl rfl
  simp only [fN_eq, cb_eq, ble_blt, kb_eq, shiftOp, elO_some]
  congr 2
  rw [Int.fdiv_eq_ediv_of_nonneg _ (by exact Int.natCast_nonneg _)]
  rfl
end Am
namespace Am
open Go

theorem elI_eq (v : V) (f : IntKind → Int → CR) : elI v f = match v with | .i k n => f k n | _ => .no := by cases v <;> rfl
theorem elB_eq (v : V) (f : Bool → CR) : elB v f = match v with | .b k => f k | _ => .no := by cases v <;> rfl
theorem elA_eq (v : V) (f : List V → CR) : elA v f = match v with | .a k => f k | _ => .no := by cases v <;> rfl
theorem elT_eq (v : V) (f : List V → CR) : elT v f = match v with | .t k => f k | _ => .no := by cases v <;> rfl
theorem elLp_eq (v : V) (f : Nat → CR) : elLp v f = match v with | .lp k => f k | _ => .no := by cases v <;> rfl
theorem elCs_eq (v : V) (f : List V → CR) : elCs v f = elO v.cs? f := by cases v <;> rfl
theorem elNat_eq (v : V) (f : Nat → CR) : elNat v f = elO (inat v) f := by
  unfold elNat
  rw [elI_eq]
  cases v with
  | i k n => cases n <;> rfl
  | _ => rfl
@[simp] theorem vlenF_eq (l : List V) (n : Nat) : vlenF l n = vlen l n := by
  induction l generalizing n with
  | nil => rfl
  | cons x l ih => exact ih _
@[simp] theorem dropF_eq (n : Nat) (l : List V) : dropF n l = vdrop n l := by
  induction n generalizing l with
  | zero => rfl
  | succ n ih => cases l with
    | nil => show dropF n [] = []; rw [ih]; cases n <;> rfl
    | cons x l => exact ih l
theorem vlen_add (l : List V) (n : Nat) : vlen l n = vlen l 0 + n := by
  induction l generalizing n with
  | nil => simp [vlen]
  | cons x l ih => simp only [vlen]; rw [ih (n + 1), ih 1]; omega
theorem takeK_eq (n : Nat) (l : List V) (k : List V → CR) : takeK n l k = bif Nat.beq (vlen (vtake n l) 0) n then k (vtake n l) else .no := by
  induction n generalizing l k with
  | zero => rfl
  | succ n ih => cases l with
    | nil => rfl
    | cons x l =>
      show takeK n l (fun r => k (x :: r)) = _
      rw [ih]
      simp only [vtake, vlen]
      rw [vlen_add _ 1]
      have : Nat.beq (vlen (vtake n l) 0 + 1) (n + 1) = Nat.beq (vlen (vtake n l) 0) n := rfl
      rw [this]
theorem rdK_eq (cs : List V) (o : Nat) (g : Bool) (sz : Nat) (k : V → CR) : rdK cs o g sz k = elO (rd cs o g sz) k := by
  unfold rdK rd part
  simp only [cb_eq, dropF_eq, takeK_eq]
  cases g with
  | true =>
    simp only [cond_true]
    cases Nat.beq (vlen (vtake sz (vdrop o cs)) 0) sz <;> rfl
  | false =>
    simp only [cond_false]
    match sz with
    | 0 => rfl
    | 1 => cases hd : vdrop o cs with
      | nil => rfl
      | cons x l => show fV x k = _; simp; rfl
    | n + 2 =>
      show CR.no = _
      cases hb : Nat.beq (vlen (vtake (n + 2) (vdrop o cs)) 0) (n + 2) with
      | false => rfl
      | true =>
        simp only [cond_true]
        generalize vtake (n + 2) (vdrop o cs) = l at hb ⊢
        match l, hb with
        | [], _ => rfl
        | [x], hb => exact absurd (Nat.eq_of_beq_eq_true hb) (by simp [vlen])
        | _ :: _ :: _, _ => rfl
@[simp] theorem plc_eq (d : Option Nat) (ts : List V) (k : Nat → CR) : (plc d).f ts k = elO (place ts d) k := by
  cases d with
  | none => rfl
  | some d =>
    simp only [plc, la_eq, elLp_eq, place]
    cases lget ts d <;> rfl
theorem ovK_nil (cs : List V) (k : List V → CR) : ovK cs 0 [] k = elO (wrt cs 0 []) k := by
  have : Nat.ble (0 + vlen ([] : List V) 0) (vlen cs 0) = true := Nat.ble_eq_true_of_le (by simp [vlen])
  unfold wrt
  rw [this]
  cases cs <;> rfl
theorem ovK_eq (cs : List V) (o : Nat) (v : V) (new : List V) (k : List V → CR) : ovK cs o (v :: new) k = elO (wrt cs o (v :: new)) k := by
  induction cs generalizing o v new k with
  | nil =>
      show CR.no = _
      unfold wrt
      have : Nat.ble (o + vlen (v :: new) 0) (vlen [] 0) = false := by
        simp only [vlen]; rw [vlen_add]; cases hb : Nat.ble (o + (vlen new 0 + (0 + 1))) 0 with
        | false => rfl
        | true => have := Nat.le_of_ble_eq_true hb; omega
      rw [this]; rfl
  | cons c cs ih => cases o with
      | zero =>
        show ovK cs 0 new (fun l => k (v :: l)) = _
        have e : ovK cs 0 new (fun l => k (v :: l)) = elO (wrt cs 0 new) (fun l => k (v :: l)) := by
          cases new with
          | nil => exact ovK_nil _ _
          | cons a b => exact ih _ _ _ _
        rw [e]
        unfold wrt
        simp only [vlen]
        rw [vlen_add new (0 + 1), vlen_add cs (0 + 1)]
        have : Nat.ble (0 + (vlen new 0 + (0 + 1))) (vlen cs 0 + (0 + 1)) = Nat.ble (0 + vlen new 0) (vlen cs 0) := by
          simp only [Nat.zero_add]; rfl
        rw [this]
        cases Nat.ble (0 + vlen new 0) (vlen cs 0) <;> rfl
      | succ o =>
        show ovK cs o (v :: new) (fun l => k (c :: l)) = _
        rw [ih]
        unfold wrt
        have : Nat.ble (o + 1 + vlen (v :: new) 0) (vlen (c :: cs) 0) = Nat.ble (o + vlen (v :: new) 0) (vlen cs 0) := by
          simp only [vlen]
          rw [vlen_add cs (0 + 1)]
          have e : o + 1 + vlen new (0 + 1) = (o + vlen new (0 + 1)) + 1 := by omega
          rw [e]; rfl
        rw [this]
        cases Nat.ble (o + vlen (v :: new) 0) (vlen cs 0) <;> rfl

/-! ops -/
abbrev GoodQ (o : O) (c : OpC) : Prop := ∀ call vs ts ls h k, c.f call vs ts ls h k = elRs (evO call vs ts ls h o) k
theorem elRs_of (ls : Ls) (h : H) (o : Option V) (k : Kt) : elRs (Rs.of ls h o) k = elO o fun v => k v ls h := by cases o <;> rfl
theorem gen_eq (e : CallT → List V → List V → Ls → H → Rs) (call vs ts ls h k) : (gen e).f call vs ts ls h k = elRs (e call vs ts ls h) k := by
  simp only [gen, fV_eq]
theorem o_mv_eq (x : X) : GoodQ (.mv x) (o_mv x) := by
  intro call vs ts ls h k; simp only [o_mv, fV_eq, ac_eq]; rfl
theorem binQ_eq (op : BinOp) (h1 : op ≠ .shl) (h2 : op ≠ .shr) (x y : X) : GoodQ (.bin op x y) (binQ op x y) := by
  intro call vs ts ls h k
  have hg : (gen (e_bin op x y)).f call vs ts ls h k = elRs (evO call vs ts ls h (.bin op x y)) k := gen_eq _ _ _ _ _ _ _
  have hv : ∀ (v : V) (a b : CR), binQ.isII v a b = match v with | .i _ _ => a | _ => b := by intro v a b; cases v <;> rfl
  simp only [binQ, ac_eq, hv, elI_eq]
  rw [hg]
  show _ = elRs (e_bin op x y call vs ts ls h) k
  unfold e_bin
  rw [elRs_of]
  cases hx : getX vs ts x with
  | i kx a =>
    simp only
    cases hy : getX vs ts y with
    | i ky b =>
      simp only [cb_eq, kq_eq]
      have : binOp op (.i kx a) (.i ky b) = bif keq kx ky then arith op kx a b else none := by
        cases op <;> first | rfl | exact absurd rfl h1 | exact absurd rfl h2
      rw [this, arC_eq op h1 h2]
      cases keq kx ky <;> rfl
    | _ => cases op <;> rfl
  | _ =>
    simp only
    show elRs (e_bin op x y call vs ts ls h) k = _
    unfold e_bin
    rw [elRs_of, hx]
theorem binS_eq (op : BinOp) (q : At) (hq : ∀ k x y f, q k x y f = elO (shiftOp op k x y) f) (ho : ∀ k a k' b, binOp op (.i k a) (.i k' b) = shiftOp op k a b)
    (hn : ∀ x y, (∀ k a k' b, ¬(x = .i k a ∧ y = .i k' b)) → binOp op x y = none) (x y : X) : GoodQ (.bin op x y) (binS q x y) := by
  intro call vs ts ls h k
  show _ = elRs (e_bin op x y call vs ts ls h) k
  unfold e_bin
  rw [elRs_of]
  simp only [binS, ac_eq, elI_eq]
  cases hx : getX vs ts x with
  | i kx a =>
    cases hy : getX vs ts y with
    | i ky b => simp only [hq, ho]
    | _ => rw [hn _ _ (by rintro _ _ _ _ ⟨_, h⟩; cases h)]; rfl
  | _ => rw [hn _ _ (by rintro _ _ _ _ ⟨h, _⟩; cases h)]; rfl
theorem shl_none : ∀ x y, (∀ k a k' b, ¬(x = .i k a ∧ y = .i k' b)) → binOp .shl x y = none := by
  intro x y h
  cases x <;> cases y <;> first | rfl | exact absurd ⟨rfl, rfl⟩ (h _ _ _ _)
theorem shr_none : ∀ x y, (∀ k a k' b, ¬(x = .i k a ∧ y = .i k' b)) → binOp .shr x y = none := by
  intro x y h
  cases x <;> cases y <;> first | rfl | exact absurd ⟨rfl, rfl⟩ (h _ _ _ _)
theorem o_bin_eq (op : BinOp) (x y : X) : GoodQ (.bin op x y) (o_bin op x y) := by
  cases op with
  | shl => exact binS_eq .shl q_shl q_shl_eq (fun _ _ _ _ => rfl) shl_none x y
  | shr => exact binS_eq .shr q_shr q_shr_eq (fun _ _ _ _ => rfl) shr_none x y
  | _ => exact binQ_eq _ (by decide) (by decide) x y
theorem o_un_eq (op : UnOp) (x : X) : GoodQ (.un op x) (o_un op x) := by
  intro call vs ts ls h k
  show _ = elRs (e_un op x call vs ts ls h) k
  cases op with
  | not =>
    unfold e_un
    simp only [o_un, ac_eq, elB_eq, cb_eq, elRs_of]
    cases getX vs ts x with
    | b t => cases t <;> rfl
    | _ => rfl
  | _ => exact gen_eq _ _ _ _ _ _ _
theorem o_pick_eq (c a b : X) : GoodQ (.pick c a b) (o_pick c a b) := by
  intro call vs ts ls h k
  show _ = elRs (e_pick c a b call vs ts ls h) k
  unfold e_pick
  simp only [o_pick, ac_eq, elB_eq, cb_eq, fV_eq]
  cases getX vs ts c <;> rfl
theorem o_cvI_eq (kd : IntKind) (x : X) : GoodQ (.cvI kd x) (o_cvI kd x) := by
  intro call vs ts ls h k
  show _ = elRs (e_cvI kd x call vs ts ls h) k
  unfold e_cvI
  simp only [o_cvI, ac_eq, elI_eq, wk_eq]
  cases getX vs ts x <;> rfl
theorem o_ext_eq (x : X) (i : Nat) : GoodQ (.ext x i) (o_ext x i) := by
  intro call vs ts ls h k
  show _ = elRs (e_ext x i call vs ts ls h) k
  unfold e_ext
  simp only [o_ext, ac_eq, elT_eq, cb_eq, fV_eq, la_eq, vlenF_eq, ble_blt]
  cases getX vs ts x with
  | t l => simp only; cases Nat.blt i (vlen l 0) <;> rfl
  | _ => rfl
theorem o_idx_eq (x i : X) (len : Nat) (g : Bool) (sz : Nat) : GoodQ (.idx x i len g sz) (o_idx x i len g sz) := by
  intro call vs ts ls h k
  show _ = elRs (e_idx x i len g sz call vs ts ls h) k
  unfold e_idx
  simp only [o_idx, ac_eq, elA_eq, elNat_eq, cb_eq, rdK_eq, ble_blt]
  cases getX vs ts x with
  | a cs => cases inat (getX vs ts i) with
    | none => rfl
    | some n =>
      simp only [elO_some]
      cases Nat.blt n len with
      | true => exact (elRs_of _ _ _ _).symm
      | false => rfl
  | _ => cases inat (getX vs ts i) <;> rfl
theorem acs_eq (as : List X) (vs ts : List V) (k : List V → CR) : (acs as).f vs ts k = k (getXs vs ts as) := by
  induction as generalizing k with
  | nil => rfl
  | cons x r ih => simp only [acs, fV_eq, ac_eq, ih, getXs]
theorem o_call_eq (f : Nat) (as : List X) : GoodQ (.call f as) (o_call f as) := by
  intro call vs ts ls h k
  show _ = elRs (e_call f as call vs ts ls h) k
  unfold e_call
  simp only [o_call, acs_eq, fV_eq]
  cases call f (getXs vs ts as) h <;> rfl
theorem o_lal_eq (s : Nat) (zero : List V) : GoodQ (.lal s zero) (o_lal s zero) := by
  intro call vs ts ls h k
  show _ = elRs (e_lal s zero call vs ts ls h) k
  unfold e_lal
  simp only [o_lal, fL_eq, ss_eq, elRs_ok]
theorem o_lbx_eq (s : Nat) (x : X) : GoodQ (.lbx s x) (o_lbx s x) := by
  intro call vs ts ls h k
  show _ = elRs (e_lbx s x call vs ts ls h) k
  unfold e_lbx
  simp only [o_lbx, elCs_eq, ac_eq, setK, fL_eq, ss_eq]
  cases (getX vs ts x).cs? <;> rfl
theorem o_lfa_eq (s : Nat) (d : Option Nat) (o : Nat) : GoodQ (.lfa s d o) (o_lfa s d o) := by
  intro call vs ts ls h k
  show _ = elRs (e_lfa s d o call vs ts ls h) k
  unfold e_lfa
  simp only [o_lfa, plc_eq, sa_eq, fN_eq]
  cases place ts d <;> cases slot ls s <;> rfl
theorem o_lia_eq (s : Nat) (d : Option Nat) (i : X) (len sz : Nat) : GoodQ (.lia s d i len sz) (o_lia s d i len sz) := by
  intro call vs ts ls h k
  show _ = elRs (e_lia s d i len sz call vs ts ls h) k
  unfold e_lia
  simp only [o_lia, plc_eq, sa_eq, fN_eq, elNat_eq, ac_eq, cb_eq, ble_blt]
  cases place ts d with
  | none => rfl
  | some p => cases slot ls s with
    | none => rfl
    | some cs => cases inat (getX vs ts i) with
      | none => rfl
      | some n => simp only [elO_some]; cases Nat.blt n len <;> rfl
theorem o_lld_eq (s : Nat) (d : Option Nat) (g : Bool) (sz : Nat) : GoodQ (.lld s d g sz) (o_lld s d g sz) := by
  intro call vs ts ls h k
  show _ = elRs (e_lld s d g sz call vs ts ls h) k
  unfold e_lld
  simp only [o_lld, plc_eq, sa_eq, rdK_eq]
  cases place ts d with
  | none => rfl
  | some p => cases slot ls s with
    | none => rfl
    | some cs => exact (elRs_of _ _ _ _).symm
theorem o_lst_eq (s : Nat) (d : Option Nat) (x : X) (sz : Nat) : GoodQ (.lst s d x sz) (o_lst s d x sz) := by
  intro call vs ts ls h k
  show _ = elRs (e_lst s d x sz call vs ts ls h) k
  cases sz with
  | zero => exact gen_eq _ _ _ _ _ _ _
  | succ sz =>
    unfold e_lst
    simp only [o_lst, plc_eq, sa_eq, elCs_eq, ac_eq, cb_eq, vlenF_eq, fL_eq, ss_eq]
    cases place ts d with
    | none => rfl
    | some p => cases slot ls s with
      | none => rfl
      | some cs => cases (getX vs ts x).cs? with
        | none => rfl
        | some new =>
          simp only [elO_some]
          show (bif Nat.beq (vlen new 0) (sz + 1) then _ else _) = _
          cases hb : Nat.beq (vlen new 0) (sz + 1) with
          | false => rfl
          | true =>
            simp only [cond_true]
            cases new with
            | nil => exact absurd (Nat.eq_of_beq_eq_true hb) (by simp [vlen])
            | cons v new =>
              rw [ovK_eq]
              cases wrt cs p (v :: new) <;> rfl
end Am
namespace Am
open Go
theorem qO_eq (o : O) : GoodQ o (qO o) := by
  cases o with
  | mv x => exact o_mv_eq x
  | pick a b c => exact o_pick_eq a b c
  | un a b => exact o_un_eq a b
  | bin a b c => exact o_bin_eq a b c
  | cvI a b => exact o_cvI_eq a b
  | ext a b => exact o_ext_eq a b
  | idx a b c d e => exact o_idx_eq a b c d e
  | call a b => exact o_call_eq a b
  | lal a b => exact o_lal_eq a b
  | lbx a b => exact o_lbx_eq a b
  | lfa a b c => exact o_lfa_eq a b c
  | lia a b c d e => exact o_lia_eq a b c d e
  | lld a b c d => exact o_lld_eq a b c d
  | lst a b c d => exact o_lst_eq a b c d
  | _ => exact fun _ _ _ _ _ _ => gen_eq _ _ _ _ _ _ _
theorem dc_eq (d : Option Nat) (vs : List V) (v : V) : (dc d).f vs v = setD vs d v := by
  cases d with
  | none => rfl
  | some j => simp only [dc, lsQ_eq, setD]
theorem qOps_eq (call : CallT) : ∀ (ops : List RO) (vs ts : List V) (ls : Ls) (h : H), (qOps ops).f call vs ts ls h = evOps call ops vs ts ls h := by
  intro ops
  induction ops with
  | nil => intros; rfl
  | cons o r ih =>
    intro vs ts ls h
    obtain ⟨g, d, o⟩ := o
    have hD : ∀ (d : Option Nat) vs ts ls h, (stepD (qO o) (dc d) (qOps r)).f call vs ts ls h = match evO call vs ts ls h o with | .ok v ls h => evOps call r (setD vs d v) (v :: ts) ls h | .no => .no := by
      intro d vs ts ls h
      show (qO o).f call vs ts ls h _ = _
      rw [qO_eq o]
      cases evO call vs ts ls h o with
      | no => rfl
      | ok v ls h => show (qOps r).f call ((dc d).f vs v) (v :: ts) ls h = _; rw [ih, dc_eq]
    cases g with
    | none =>
      have e : evOps call (⟨none, d, o⟩ :: r) vs ts ls h = match evO call vs ts ls h o with | .ok v ls h => evOps call r (setD vs d v) (v :: ts) ls h | .no => .no := rfl
      rw [e]
      cases d with
      | none =>
        show (stepD (qO o) (dc none) (qOps r)).f call vs ts ls h = _
        exact hD none vs ts ls h
      | some j => exact hD (some j) vs ts ls h
    | some g =>
      show cb (wantedG ts (some g)) ((stepD (qO o) (dc d) (qOps r)).f call vs ts ls h) ((qOps r).f call ((dc d).f vs undef) (undef :: ts) ls h) = _
      rw [cb_eq, hD, ih, dc_eq]
      rfl
theorem elCR_eq (r : CR) (k : Ex → Ct) : elCR r k = match r with | .no => .no | .ok e vs ts ls h => k e vs ts ls h := by cases r <;> rfl
theorem iterQ_eq (f : List V → Ls → H → CR) : ∀ n vs ls h, iterQ f n vs ls h = iter f n vs ls h := by
  intro n
  induction n with
  | zero => intros; rfl
  | succ n ih =>
    intro vs ls h
    show elCR (f vs ls h) _ = _
    rw [elCR_eq]
    unfold iter
    cases f vs ls h with
    | no => rfl
    | ok e vs ts ls h =>
      cases e with
      | n =>
        show fL vs _ = iter f n vs ls h
        rw [fL_eq]; exact ih _ _ _
      | x id => rfl
      | r => rfl
theorem iter_congr (f g : List V → Ls → H → CR) (hfg : ∀ vs ls h, f vs ls h = g vs ls h) : ∀ n vs ls h, iter f n vs ls h = iter g n vs ls h := by
  have : f = g := by funext vs ls h; exact hfg vs ls h
  subst this; intros; rfl
theorem qK_eq (call : CallT) (N : Nat) : ∀ (k : K) (vs ts : List V) (ls : Ls) (h : H), (qK k).f ⟨call, N⟩ vs ts ls h = evK call N k vs ts ls h := by
  intro k
  induction k with
  | skip => intros; rfl
  | bad => intros; rfl
  | reg ops => intro vs ts ls h; exact qOps_eq call ops vs [] ls h
  | dreg ops fl =>
    intro vs ts ls h
    cases fl with
    | nil => exact qOps_eq call ops vs [] ls h
    | cons x fl => rfl
  | seq a b iha ihb =>
    intro vs ts ls h
    show elCR ((qK a).f ⟨call, N⟩ vs ts ls h) _ = _
    rw [elCR_eq, iha]
    have e : evK call N (.seq a b) vs ts ls h = match evK call N a vs ts ls h with
      | .ok .n vs ts ls h => evK call N b vs ts ls h
      | r => r := rfl
    rw [e]
    cases evK call N a vs ts ls h with
    | no => rfl
    | ok e vs ts ls h => cases e with
      | n => exact ihb vs ts ls h
      | x id => rfl
      | r => rfl
  | cond x a b iha ihb =>
    intro vs ts ls h
    show elB ((ac x).f vs ts) _ = _
    rw [elB_eq, ac_eq]
    have e : evK call N (.cond x a b) vs ts ls h = match getX vs ts x with
      | .b t => bif t then evK call N a vs ts ls h else evK call N b vs ts ls h
      | _ => .no := rfl
    rw [e]
    cases getX vs ts x with
    | b t => simp only [cb_eq, iha, ihb]
    | _ => rfl
  | block id b ihb =>
    intro vs ts ls h
    show elCR ((qK b).f ⟨call, N⟩ vs ts ls h) _ = _
    rw [elCR_eq, ihb]
    have e : evK call N (.block id b) vs ts ls h = match evK call N b vs ts ls h with
      | .ok (.x i) vs ts ls h => bif Nat.beq i id then .ok .n vs ts ls h else .ok (.x i) vs ts ls h
      | r => r := rfl
    rw [e]
    cases evK call N b vs ts ls h with
    | no => rfl
    | ok e vs ts ls h => cases e with
      | n => rfl
      | x i => show cb (Nat.beq i id) _ _ = _; rw [cb_eq]
      | r => rfl
  | loop b ihb =>
    intro vs ts ls h
    show iterQ _ N vs ls h = _
    rw [iterQ_eq]
    exact iter_congr _ _ (fun vs ls h => ihb vs [] ls h) N vs ls h
  | exit id => intros; rfl
  | ret => intros; rfl
theorem runQ_eq (N : Nat) (call : CallT) (c : CF) (args : List V) (h : H) : runQ N call c args h = run N call c args h := by
  unfold runQ run
  simp only [cb_eq, vlenF_eq, qK_eq]
  cases Nat.beq (vlen args 0) c.np with
  | false => rfl
  | true =>
    simp only [cond_true, Bool.not_true, cond_false]
    cases evK call N c.body (vapp args (rep (c.nv - c.np) undef)) [] (rep c.nl none) h with
    | no => rfl
    | ok e vs ts ls h => cases e <;> rfl
theorem evQ_eq (N : Nat) (sm : Nat → Option (List V → H → Option (V × H))) (tab : Nat → Option CF) : ∀ d, evQ N sm tab d = evF N sm tab d := by
  intro d
  induction d with
  | zero => funext f args h; rfl
  | succ d ih =>
    funext f args h
    show (@Option.rec _ (fun _ => Option (V × H)) (@Option.rec _ (fun _ => Option (V × H)) none (fun c => runQ N (evQ N sm tab d) c args h) (tab f)) (fun g => g args h) (sm f) : Option (V × H)) = _
    unfold evF
    cases sm f with
    | some g => rfl
    | none =>
      simp only
      cases tab f with
      | none => rfl
      | some c => simp only; rw [runQ_eq, ih]
end Am
namespace Am
open Go
noncomputable section
variable {P : Program}

/-! Tables -/
abbrev G := List V → H → Option (V × H)
def lk {A : Type} (l : List (Nat × A)) (f : Nat) : Option A := @List.rec (Nat × A) (fun _ => Option A) none (fun p _ ih => cb (Nat.beq p.1 f) (some p.2) ih) l
theorem lk_mem {A : Type} {l : List (Nat × A)} {f : Nat} {a : A} (h : lk l f = some a) : (f, a) ∈ l := by
  induction l with
  | nil => cases h
  | cons p l ih =>
    have e : lk (p :: l) f = bif Nat.beq p.1 f then some p.2 else lk l f := cb_eq _ _ _
    rw [e] at h
    cases hb : Nat.beq p.1 f with
    | true =>
      rw [hb] at h
      have h1 := Nat.eq_of_beq_eq_true hb
      obtain ⟨a', b'⟩ := p
      simp at h h1
      subst h h1
      simp
    | false => rw [hb] at h; exact List.mem_cons_of_mem _ (ih h)
def Found (P : Program) (T : TT) (p : Nat × CF) : Prop := ∃ fn ks, P.funcs[p.1]? = some fn ∧ comp T ks fn = some p.2 ∧ (fn.name == "runtime.NumGoroutine") = false
theorem found {T : TT} {f : Nat} {fn : Func} {ks : List Nat} {c : CF} (h1 : P.funcs[f]? = some fn) (h2 : comp T ks fn = some c) (h3 : (fn.name == "runtime.NumGoroutine") = false) : Found P T (f, c) := ⟨fn, ks, h1, h2, h3⟩
theorem tabOK {T : TT} {l : List (Nat × CF)} (h : ∀ p ∈ l, Found P T p) : TabOK P T (lk l) := fun f cf e => h (f, cf) (lk_mem e)
def GOK (P : Program) (f : Nat) (g : G) : Prop :=
  ∀ args h r h', g args h = some (r, h') → ∀ μ w args', HRel μ h w → VRs μ args args'.toList → CDoes P f args' w fun y w' => ∃ μ', HRel μ' h' w' ∧ Fr μ h w μ' h' w' ∧ VRel μ' r y
theorem sumOK {l : List (Nat × G)} (h : ∀ p ∈ l, GOK P p.1 p.2) : SumOK P (lk l) := fun f g e => h (f, g) (lk_mem e)

/-! Values without places -/
mutual
def pur : V → Bool
  | .p _ _ => false
  | .sl .. => false
  | .m _ => false
  | .lp _ => false
  | .lsl _ _ => false
  | .a cs => purs cs
  | .t cs => purs cs
  | .f _ fs cs => purs fs && purs cs
  | .ic _ v => pur v
  | _ => true
def purs : List V → Bool
  | [] => true
  | a :: l => pur a && purs l
end
mutual
theorem VRel.pur {μ μ' : Mp} : ∀ {x : V} {y : Value}, VRel μ x y → pur x = true → VRel μ' x y
  | _, _, .b x, _ => .b x
  | _, _, .i k n, _ => .i k n
  | _, _, .s l y h, _ => .s l y h
  | _, _, .pn, _ => .pn
  | _, _, .p h, e => by simp [Am.pur] at e
  | _, _, .sn, _ => .sn
  | _, _, .sl h hn hc ha hN, e => by simp [Am.pur] at e
  | _, _, .mn, _ => .mn
  | _, _, .m h, e => by simp [Am.pur] at e
  | _, _, .f h h', e => by
    simp [Am.pur] at e
    exact .f (VRs.pur h e.1) (VRs.pur h' e.2)
  | _, _, .nf, _ => .nf
  | _, _, .ic h, e => .ic (VRel.pur h (by simpa [Am.pur] using e))
  | _, _, .ni, _ => .ni
  | _, _, .a h h1, e => .a (VRs.pur h (by simpa [Am.pur] using e)) h1
  | _, _, .t h, e => .t (VRs.pur h (by simpa [Am.pur] using e))
theorem VRs.pur {μ μ' : Mp} : ∀ {x : List V} {y : List Value}, VRs μ x y → purs x = true → VRs μ' x y
  | _, _, .nil, _ => .nil
  | _, _, .cons h h', e => by
    simp [Am.purs] at e
    exact .cons (VRel.pur h e.1) (VRs.pur h' e.2)
end
def μ0 : Mp := fun _ => none
def HG (g : List GK) : H := ⟨0, .lf, g⟩
theorem HG_get (g : List GK) (b : Nat) : (HG g).get b = none := by simp [HG, H.get, Tr.get]
def H0 : H := HG []
theorem H0_get (b : Nat) : H0.get b = none := HG_get [] b
theorem HRelG {g : List GK} {w : World} (hg : ∀ k ∈ g, k.holds w) : HRel μ0 (HG g) w :=
  ⟨fun b x h => (by rw [HG_get] at h; cases h), fun b b' x x' c β β' N N' h => (by rw [HG_get] at h; cases h), fun _ _ => rfl, fun k hk => ⟨hg k hk, fun ⟨b, x, β, N, hb, _⟩ => (by rw [HG_get] at hb; cases hb)⟩⟩
theorem HRel0 (w : World) : HRel μ0 H0 w := HRelG (by simp)
/-- what a call of plain data leaves as it is -/
structure Quiet (w w' : World) : Prop where
  size : w.heap.size ≤ w'.heap.size
  keep : ∀ c, c < w.heap.size → w'.heap[c]? = w.heap[c]?
  tape : w'.tape = w.tape
  os : w'.os = w.os
  out : w'.output = w.output
theorem Fr.quiet {g : List GK} {w w' : World} {μ' : Mp} {h' : H} (f : Fr μ0 (HG g) w μ' h' w') : Quiet w w' :=
  ⟨f.size, fun c hc => f.keep c hc (fun ⟨b, x, β, N, hb, _⟩ => (by rw [HG_get] at hb; cases hb)), f.tape, f.os, f.out⟩
theorem HRel.quiet {μ : Mp} {h : H} {w w' : World} (hh : HRel μ h w) (q : Quiet w w') : HRel μ h w' :=
  ⟨fun b x hb => let ⟨c, β, N, hm, hr⟩ := hh.blk b x hb; ⟨c, β, N, hm, hr.mono (Ext.refl _) (q.keep c hr.lt)⟩, hh.inj, hh.dom, fun k hk => ⟨(hh.glb k hk).1.keep (q.keep _ (hh.glb k hk).1.lt), (hh.glb k hk).2⟩⟩
theorem Quiet.fr {μ : Mp} {h : H} {w w' : World} (q : Quiet w w') : Fr μ h w μ h w' :=
  ⟨Ext.refl _, Nat.le_refl _, q.size, fun c hc _ => q.keep c hc, fun _ l => .inl l, q.tape, q.os, q.out, rfl⟩
theorem CDoes.mono {f : FuncId} {args : Array Value} {w : World} {R R' : Value → World → Prop} (h : CDoes P f args w R) (hr : ∀ y w', R y w' → R' y w') : CDoes P f args w R' := by
  rcases h with ⟨y, w', h1, h2⟩ | ⟨w1, h1, h2⟩
  · exact .inl ⟨y, w', hr _ _ h1, h2⟩
  · refine .inr ⟨w1, h1, Calls.mono h2 fun e w' he => ?_⟩
    cases e with
    | returned y => exact hr _ _ he
    | panicked ch => exact he
    | outgrown => exact he

/-! Calls of plain data, once proved -/
def EntOK (P : Program) (f : Nat) (a : List V) (r : V) : Prop :=
  pur r = true ∧ purs a = true ∧ ∀ w args', VRs μ0 a args'.toList → CDoes P f args' w fun y w' => Quiet w w' ∧ VRel μ0 r y
theorem ent_of_call {call : CallT} (hc : CallOK P call) {f : Nat} {a : List V} {r : V} {h' : H} (e : call f a H0 = some (r, h')) (h1 : pur r = true) (h2 : purs a = true) : EntOK P f a r := by
  refine ⟨h1, h2, fun w args' hA => (hc f a H0 r h' e μ0 w args' (HRel0 w) hA).mono fun y w' ⟨μ', _, hf, hv⟩ => ⟨hf.quiet, hv.pur h1⟩⟩
theorem EntOK.does {f : Nat} {a : List V} {r : V} (h : EntOK P f a r) {μ : Mp} {H1 : H} {w : World} {args' : Array Value} (hH : HRel μ H1 w) (hA : VRs μ a args'.toList) :
    CDoes P f args' w fun y w' => ∃ μ', HRel μ' H1 w' ∧ Fr μ H1 w μ' H1 w' ∧ VRel μ' r y :=
  (h.2.2 w args' (hA.pur h.2.1)).mono fun _ _ ⟨q, hv⟩ => ⟨μ, hH.quiet q, q.fr, hv.pur h.1⟩
/-- the lookup -/
def elook (es : List (List V × V)) (args : List V) : Option V := @List.rec (List V × V) (fun _ => Option V) none (fun p _ ih => cb (veqs p.1 args) (some p.2) ih) es
theorem elook_mem {es : List (List V × V)} {args : List V} {r : V} (h : elook es args = some r) : (args, r) ∈ es := by
  induction es with
  | nil => cases h
  | cons p l ih =>
    have e : elook (p :: l) args = bif veqs p.1 args then some p.2 else elook l args := cb_eq _ _ _
    rw [e] at h
    cases hb : veqs p.1 args with
    | true =>
      rw [hb] at h
      have h1 := veqs_ok hb
      obtain ⟨a', b'⟩ := p
      simp at h h1
      subst h h1
      simp
    | false => rw [hb] at h; exact List.mem_cons_of_mem _ (ih h)
def mG (es : List (List V × V)) : G := fun args h => @Option.rec V (fun _ => Option (V × H)) none (fun r => some (r, h)) (elook es args)
theorem mG_ok {f : Nat} {es : List (List V × V)} (h : ∀ e ∈ es, EntOK P f e.1 e.2) : GOK P f (mG es) := by
  intro args h1 r h' e μ w args' hH hA
  have : elook es args = some r ∧ h' = h1 := by
    unfold mG at e
    cases he : elook es args with
    | none => rw [he] at e; cases e
    | some v => rw [he] at e; cases e; exact ⟨rfl, rfl⟩
  obtain ⟨e1, rfl⟩ := this
  exact (h _ (elook_mem e1)).does hH hA
/-- one entry's check, by the kernel -/
def check (o : Option (V × H)) (r : V) (a : List V) : Bool := @Option.rec _ (fun _ => Bool) false (fun p => cb (veq r p.1) (cb (pur r) (purs a) false) false) o
theorem ent {T : TT} (hT : TOk P T) (hm : P.follows .mixedOrders = true) {n d : Nat} {sm : Nat → Option G} {tab : Nat → Option CF} (ht : TabOK P T tab) (hs : SumOK P sm)
    {f : Nat} {a : List V} {r : V} (e : check (evQ n sm tab d f a H0) r a = true) : EntOK P f a r := by
  unfold check at e
  cases he : evQ n sm tab d f a H0 with
  | none => rw [he] at e; cases e
  | some p =>
    rw [he] at e
    simp only [cb_eq] at e
    cases h1 : veq r p.1 with
    | false => rw [h1] at e; cases e
    | true =>
      cases h2 : pur r with
      | false => rw [h1, h2] at e; cases e
      | true =>
        rw [h1, h2] at e
        have h3 := veq_ok h1
        obtain ⟨v, h'⟩ := p
        simp only at h3
        subst h3
        rw [evQ_eq] at he
        exact ent_of_call (evF_ok hT hm ht hs d) he h2 e

/-- a closed law, evaluated from a world whose variables hold what the list says -/
def RootOK (P : Program) (g : List GK) (f : Nat) : Prop := ∀ w, (∀ k ∈ g, k.holds w) → CDoes P f #[] w fun y w' => Quiet w w' ∧ VRel μ0 (.b true) y
def isT (o : Option (V × H)) : Bool := @Option.rec _ (fun _ => Bool) false (fun p => veq (.b true) p.1) o
theorem rootOK {T : TT} (hT : TOk P T) (hm : P.follows .mixedOrders = true) {n d : Nat} {sm : Nat → Option G} {tab : Nat → Option CF} (ht : TabOK P T tab) (hs : SumOK P sm)
    {f : Nat} {g : List GK} (e : isT (evQ n sm tab d f [] (HG g)) = true) : RootOK P g f := by
  intro w hg
  unfold isT at e
  cases he : evQ n sm tab d f [] (HG g) with
  | none => rw [he] at e; cases e
  | some p =>
    rw [he] at e
    have h3 := veq_ok e
    obtain ⟨v, h'⟩ := p
    simp only at h3
    subst h3
    rw [evQ_eq] at he
    exact (evF_ok hT hm ht hs d f [] (HG g) (.b true) h' he μ0 w #[] (HRelG hg) .nil).mono fun y w' ⟨μ', _, hf, hv⟩ => ⟨hf.quiet, hv.pur rfl⟩

/-! Go's own -/
def idxQ (c : Nat) : List Nat → Nat → Int := @List.rec Nat (fun _ => Nat → Int) (fun _ => .negSucc 0) (fun x _ ih n => cb (Nat.beq x c) (.ofNat n) (ih (Nat.succ n)))
theorem idxQ_eq (c : Nat) (hc : c < 256) (l : List UInt8) : ∀ n, idxQ c (l.map UInt8.toNat) n = if Lib.indexByte l c.toUInt8 = -1 then -1 else Lib.indexByte l c.toUInt8 + n := by
  induction l with
  | nil => intro n; rfl
  | cons x l ih =>
    intro n
    show cb (Nat.beq x.toNat c) (Int.ofNat n) (idxQ c (l.map UInt8.toNat) (n + 1)) = _
    rw [cb_eq, ih]
    have hx : (x == c.toUInt8) = Nat.beq x.toNat c := by
      rw [Bool.eq_iff_iff, beq_iff_eq, Nat.beq_eq]
      constructor
      · rintro rfl; simp; omega
      · rintro rfl; simp
    simp only [Lib.indexByte, hx]
    have hge := Lib.indexByte_ge l c.toUInt8
    cases Nat.beq x.toNat c with
    | true => simp
    | false =>
      simp only [cond_false, Bool.false_eq_true, if_false, beq_iff_eq]
      by_cases h : Lib.indexByte l c.toUInt8 = -1
      · simp [h]
      · simp only [h, if_false]
        rw [if_neg (by omega)]
        push_cast
        omega
def gIdx : G := fun a h => match a with
  | [.s l, .i k (.ofNat c)] => bif keq k .u8 && Nat.blt c 256 then some (.i .i64 (idxQ c l 0), h) else none
  | _ => none
theorem gIdx_ok {f : Nat} {fn : Func} (hf : P.funcs[f]? = some fn) (hname : (fn.name == "runtime.NumGoroutine") = false)
    (hb : fn.body.isNone = true) (hn : Extern.findNext fn = none) (he : Extern.find fn = some Extern.BytealgIndexByte.indexByte) : GOK P f gIdx := by
  intro args h r h' e μ w args' hH hA
  unfold gIdx at e
  split at e
  · rename_i l k c
    cases hq : keq k .u8 && Nat.blt c 256 with
    | false => rw [hq] at e; cases e
    | true =>
      rw [hq] at e
      simp only [cond_true, Option.some.injEq, Prod.mk.injEq] at e
      obtain ⟨rfl, rfl⟩ := e
      simp only [Bool.and_eq_true] at hq
      have hk : k = .u8 := by have := hq.1; rw [keq_eq] at this; simpa using this
      have hc : c < 256 := by simpa using hq.2
      subst hk
      obtain ⟨args'⟩ := args'
      cases hA with
      | cons h1 h2 => cases h2 with
        | cons h2 h3 => cases h3 with
          | nil =>
            cases h1 with
            | s l y hl =>
              cases h2 with
              | i k n =>
                refine .inl ⟨.int .i64 (Lib.indexByte y.data.toList (Int.ofNat c).toNat.toUInt8), w, ⟨μ, hH, Fr.refl _ _ _, ?_⟩, ?_⟩
                rotate_left
                · rw [run_callFunc_extern hf hname hb hn he]
                  show ((Extern.BytealgIndexByte.indexByte #[.string y, .int .u8 (.ofNat c)]).run P w).andThen _ = _
                  rw [Lib.run_indexByteString]
                  rfl
                · subst hl
                  rw [idxQ_eq c hc]
                  have : (if Lib.indexByte y.data.toList c.toUInt8 = -1 then -1 else Lib.indexByte y.data.toList c.toUInt8 + (0 : Nat)) = Lib.indexByte y.data.toList (Int.ofNat c).toNat.toUInt8 := by
                    show (if Lib.indexByte y.data.toList c.toUInt8 = -1 then -1 else Lib.indexByte y.data.toList c.toUInt8 + (0 : Nat)) = Lib.indexByte y.data.toList c.toUInt8
                    split
                    · rename_i h; exact h.symm
                    · simp
                  rw [this]
                  exact .i _ _
  · cases e
end
end Am
namespace Am
open Go
section
variable {P : Program}
theorem all_nil {A : Type} {Q : A → Prop} : ∀ p ∈ ([] : List A), Q p := by simp
theorem all_cons {A : Type} {Q : A → Prop} {a : A} {l : List A} (h : Q a) (t : ∀ p ∈ l, Q p) : ∀ p ∈ a :: l, Q p := by
  intro p hp
  rcases List.mem_cons.1 hp with rfl | hp
  · exact h
  · exact t p hp
theorem VRel.true_inv {μ : Mp} {y : Value} (h : VRel μ (.b true) y) : y = .bool true := by cases h; rfl
/-- a closed law that is evaluated to true -/
theorem calls_of_ent {f : Nat} {fn : Func} {c : Code} (hf : P.funcs[f]? = some fn) (hb : fn.body = some c) (hname : (fn.name == "runtime.NumGoroutine") = false) {g : List GK} (h : RootOK P g f) (w : World) (hg : ∀ k ∈ g, k.holds w) :
    Calls P f #[] w fun e w' => e = .returned (.bool true) ∧ Quiet w w' := by
  have hrun : (callFunc f #[]).run P w = .ok (.enter f #[]) w := by
    simp only [callFunc, Sem.run_bind, run_program, Result.andThen_ok, hf, hname, hb, Option.isNone_some, Bool.false_eq_true, if_false, Sem.run_pure]
  rcases h w hg with ⟨y, w', _, h2⟩ | ⟨w1, h1, h2⟩
  · rw [hrun] at h2; cases h2
  · rw [hrun] at h1
    cases h1
    refine Calls.mono h2 fun e w' he => ?_
    cases e with
    | returned y => obtain ⟨q, hv⟩ := he; rw [hv.true_inv]; exact ⟨rfl, q⟩
    | panicked ch => exact he.elim
    | outgrown => exact he.elim
theorem Quiet.kept {W W' : World} (q : Quiet W W') (may : MemPlace → Prop) : W.keptBut W' may := by
  refine ⟨q.os, q.out, fun i hi => ?_⟩
  rw [q.keep i hi]
  cases hW : W.heap[i]? with
  | none => trivial
  | some o => cases o <;> simp
open Go.ChangeShapes Go.RowKit in
theorem post_true {H : Type} {enc : TypeId × Value → H} {f : Func} {s : ChangeSpec} {W W' : World} {ds gs : List (DataW H)} {before : List MemPlace} {t : TypeId}
    (hW : DataW.Whole enc P f.params.toList s.vars false W (#[] : Array Value).toList ds gs before) (hp : f.params = #[]) (hv : s.vars = []) (hr : f.resultTypes = #[t]) (ht : P.underlying t = some .bool)
    (hfn : s.fn H [] = { results := [.lit (.bool true)], args := [] }) (q : Quiet W W') :
    s.post enc P f false true false false W #[] (.bool true) W' := by
  have hW' := hW
  obtain ⟨p, q', hA, hV, rfl, _, _⟩ := hW
  rw [hp] at hA
  rw [hv] at hV
  have hds : ds = [] := by
    cases ds with
    | nil => rfl
    | cons d r => exact hA.elim
  have hgs : gs = [] := by
    cases gs with
    | nil => rfl
    | cons g r => exact hV.elim
  subst hds hgs
  have e : s.fn H ([] ++ []) = { results := [.lit (.bool true)], args := [] } := hfn
  refine ⟨[], [], _, [], [], [], hW', ?_, ?_, ?_, q.kept _, fun h => by cases h⟩
  · rw [e, hr]; exact trodAll_mk1 (shut_bool ht true)
  · rw [e, hp]; rfl
  · rw [e, hv]; rfl
end
end Am
namespace Am
open Go Go.RowKit Go.Sort
noncomputable section
variable {P : Program}
/-! From a contract on calls to a summary -/
theorem cdoes_of_calls {f : Nat} {fn : Func} {c : Code} (hf : P.funcs[f]? = some fn) (hb : fn.body = some c) (hname : (fn.name == "runtime.NumGoroutine") = false) {args : Array Value} {w : World} {R : Value → World → Prop}
    (h : Calls P f args w fun e w' => ∃ y, e = .returned y ∧ R y w') : CDoes P f args w R := by
  have hrun : (callFunc f args).run P w = .ok (.enter f args) w := by
    simp only [callFunc, Sem.run_bind, run_program, Result.andThen_ok, hf, hname, hb, Option.isNone_some, Bool.false_eq_true, if_false, Sem.run_pure]
  refine .inr ⟨w, hrun, Calls.mono h fun e w' he => ?_⟩
  obtain ⟨y, rfl, hr⟩ := he
  exact hr
theorem does_quiet {μ : Mp} {h : H} {w w' : World} (hH : HRel μ h w) {r : V} {y : Value} (q : Quiet w w') (hv : VRel μ r y) : ∃ μ', HRel μ' h w' ∧ Fr μ h w μ' h w' ∧ VRel μ' r y := ⟨μ, hH.quiet q, q.fr, hv⟩
theorem Quiet.refl (w : World) : Quiet w w := ⟨Nat.le_refl _, fun _ _ => rfl, rfl, rfl, rfl⟩
theorem Quiet.of_below {w w' : World} (b : Below w.heap.size w w') : Quiet w w' := ⟨b.size, b.block, b.tape, b.os, b.output⟩
theorem Quiet.of_grow (w : World) (n : Nat) (os : Array Obj) : Quiet w (grow (w.drewN n) os) := by
  refine ⟨by simp [grow, World.drewN], fun c hc => ?_, rfl, rfl, rfl⟩
  show (w.heap ++ os)[c]? = _
  rw [Array.getElem?_append_left hc]
theorem Quiet.of_bytes (w : World) (e : TypeId) (s : ByteArray) : Quiet w (Lib.bytesWorld w e s) := by
  unfold Lib.bytesWorld World.freeze
  simp only [Nat.one_ne_zero, if_false]
  refine ⟨by simp, fun c hc => ?_, rfl, rfl, rfl⟩
  simp only [Array.getElem?_modify]
  rw [if_neg (by omega)]
  exact Below.heap_alloc _ _ _ (by exact hc)
theorem toU8 (l : List UInt8) : (l.map UInt8.toNat).map Nat.toUInt8 = l := by
  rw [List.map_map]
  conv => rhs; rw [← List.map_id l]
  apply List.map_congr_left
  intro x _
  simp
theorem VRs.one {μ : Mp} {a : V} {l : List Value} (h : VRs μ [a] l) : ∃ x, l = [x] ∧ VRel μ a x := by
  cases h with | cons h h' => cases h' with | nil => exact ⟨_, rfl, h⟩
theorem VRs.two {μ : Mp} {a b : V} {l : List Value} (h : VRs μ [a, b] l) : ∃ x y, l = [x, y] ∧ VRel μ a x ∧ VRel μ b y := by
  cases h with | cons h h' => obtain ⟨y, rfl, hy⟩ := h'.one; exact ⟨_, y, rfl, h, hy⟩
theorem arr_of {args : Array Value} {l : List Value} (h : args.toList = l) : args = l.toArray := by rw [← h]
theorem VRel.str {μ : Mp} {l : List Nat} {y : Value} (h : VRel μ (.s l) y) : ∃ b : ByteArray, y = .string b ∧ b.data.toList.map UInt8.toNat = l := by
  cases h with | s _ b hb => exact ⟨b, rfl, hb⟩
theorem VRel.int {μ : Mp} {k : IntKind} {n : Int} {y : Value} (h : VRel μ (.i k n) y) : y = .int k n := by cases h; rfl
theorem str_back {μ : Mp} (l : List UInt8) : VRel μ (.s (l.map UInt8.toNat)) (.string ⟨l.toArray⟩) := .s _ _ rfl

/-! Count, one byte -/
def cntQ (c : Nat) : List Nat → Nat := @List.rec Nat (fun _ => Nat) 0 (fun x _ ih => cb (Nat.beq x c) (Nat.succ ih) ih)
theorem cntQ_eq (c : Nat) (hc : c < 256) (l : List UInt8) : cntQ c (l.map UInt8.toNat) = Lib.countByte l c.toUInt8 := by
  induction l with
  | nil => rfl
  | cons x l ih =>
    show cb (Nat.beq x.toNat c) (Nat.succ (cntQ c (l.map UInt8.toNat))) (cntQ c (l.map UInt8.toNat)) = _
    rw [cb_eq, ih]
    have hx : (x == c.toUInt8) = Nat.beq x.toNat c := by
      rw [Bool.eq_iff_iff, beq_iff_eq, Nat.beq_eq]
      constructor
      · rintro rfl; simp; omega
      · rintro rfl; simp
    unfold Lib.countByte
    rw [List.count_cons, hx]
    cases Nat.beq x.toNat c <;> simp
def gCnt : G := fun a h => match a with
  | [.s l, .i k (.ofNat c)] => bif keq k .u8 && Nat.blt c 256 then some (.i .i64 (.ofNat (cntQ c l)), h) else none
  | _ => none
theorem gCnt_ok {f : Nat} {fn : Func} (hf : P.funcs[f]? = some fn) (hname : (fn.name == "runtime.NumGoroutine") = false)
    (hb : fn.body.isNone = true) (hn : Extern.findNext fn = none) (he : Extern.find fn = some Extern.BytealgCount.count) : GOK P f gCnt := by
  intro args h r h' e μ w args' hH hA
  unfold gCnt at e
  split at e
  · rename_i l k c
    cases hq : keq k .u8 && Nat.blt c 256 with
    | false => rw [hq] at e; cases e
    | true =>
      rw [hq] at e
      simp only [cond_true, Option.some.injEq, Prod.mk.injEq] at e
      obtain ⟨rfl, rfl⟩ := e
      simp only [Bool.and_eq_true] at hq
      have hk : k = .u8 := by have := hq.1; rw [keq_eq] at this; simpa using this
      have hc : c < 256 := by simpa using hq.2
      subst hk
      obtain ⟨x, y, hl, h1, h2⟩ := hA.two
      obtain ⟨s, rfl, rfl⟩ := h1.str
      obtain rfl := h2.int
      obtain rfl := arr_of hl
      refine .inl ⟨.int .i64 (Lib.countByte s.data.toList (Int.ofNat c).toNat.toUInt8), w, ⟨μ, hH, Fr.refl _ _ _, ?_⟩, ?_⟩
      · rw [cntQ_eq c hc]; exact .i _ _
      · rw [run_callFunc_extern hf hname hb hn he]
        show ((Extern.BytealgCount.count #[.string s, .int .u8 (.ofNat c)]).run P w).andThen _ = _
        rw [Lib.run_countString]
        rfl
  · cases e

/-! IndexAny -/
def asc : List Nat → Bool := @List.rec Nat (fun _ => Bool) true (fun x _ ih => cb (Nat.ble 128 x) false ih)
theorem asc_ok {l : List UInt8} (h : asc (l.map UInt8.toNat) = true) : ∀ (j : Nat) b, l[j]? = some b → b.toNat < 128 := by
  induction l with
  | nil => simp
  | cons x l ih =>
    have e : asc ((x :: l).map UInt8.toNat) = cb (Nat.ble 128 x.toNat) false (asc (l.map UInt8.toNat)) := rfl
    rw [e, cb_eq] at h
    cases hx : Nat.ble 128 x.toNat with
    | true => rw [hx] at h; cases h
    | false =>
      rw [hx] at h
      intro j b hj
      cases j with
      | zero =>
        simp at hj; subst hj
        rcases Nat.lt_or_ge x.toNat 128 with h1 | h1
        · exact h1
        · rw [Nat.ble_eq_true_of_le h1] at hx; cases hx
      | succ j => exact ih h j b (by simpa using hj)
def gAny : G := fun a h => match a with
  | [.s l, .s p] => bif asc l && (asc p && (Nat.ble l.length 65536 && Nat.ble p.length 65536)) then some (.i .i64 (Lib.indexAny (l.map Nat.toUInt8) (p.map Nat.toUInt8)), h) else none
  | _ => none
theorem gAny_ok {f : Nat} {fn : Func} {c : Code} (hf : P.funcs[f]? = some fn) (hb : fn.body = some c) (hname : (fn.name == "runtime.NumGoroutine") = false)
    (hc : ∀ (s chars : ByteArray) (w : World), s.size < 4294967281 → chars.size < 4294967281 → (∀ (j : Nat) b, s.data.toList[j]? = some b → b.toNat < 128) → (∀ (j : Nat) b, chars.data.toList[j]? = some b → b.toNat < 128) →
      Calls P f #[.string s, .string chars] w fun e w' => e = .returned (.int .i64 (Lib.indexAny s.data.toList chars.data.toList)) ∧ Below w.heap.size w w') : GOK P f gAny := by
  intro args h r h' e μ w args' hH hA
  unfold gAny at e
  split at e
  · rename_i l p
    cases hq : asc l && (asc p && (Nat.ble l.length 65536 && Nat.ble p.length 65536)) with
    | false => rw [hq] at e; cases e
    | true =>
      rw [hq] at e
      simp only [cond_true, Option.some.injEq, Prod.mk.injEq] at e
      obtain ⟨rfl, rfl⟩ := e
      simp only [Bool.and_eq_true] at hq
      obtain ⟨q1, q2, q3, q4⟩ := hq
      obtain ⟨x, y, hl, h1, h2⟩ := hA.two
      obtain ⟨s, rfl, rfl⟩ := h1.str
      obtain ⟨t, rfl, rfl⟩ := h2.str
      obtain rfl := arr_of hl
      have z1 := Nat.le_of_ble_eq_true q3
      have z2 := Nat.le_of_ble_eq_true q4
      simp only [List.length_map, Array.length_toList] at z1 z2
      refine cdoes_of_calls hf hb hname ((hc s t w (by show s.data.size < _; omega) (by show t.data.size < _; omega) (asc_ok q1) (asc_ok q2)).mono fun e w' ⟨he, hb⟩ => ⟨_, he, ?_⟩)
      refine does_quiet hH (Quiet.of_below hb) ?_
      rw [toU8, toU8]
      exact .i _ _
  · cases e

/-! Itoa -/
def digQ : Nat → Nat → List Nat
  | 0, _ => []
  | k + 1, u => bif Nat.blt u 10 then [48 + u] else digQ k (u / 10) ++ [48 + u % 10]
theorem digQ_eq : ∀ (k u : Nat), u < 10 ^ k → 0 < k → (Lib.decDigits u).map UInt8.toNat = digQ k u := by
  intro k
  induction k with
  | zero => intro u _ h; omega
  | succ k ih =>
    intro u hu _
    rw [Lib.decDigits]
    unfold digQ
    by_cases h : u < 10
    · rw [dif_pos h]
      have : Nat.blt u 10 = true := by simpa using h
      rw [this]
      simp
      omega
    · rw [dif_neg h]
      have : Nat.blt u 10 = false := by rw [Bool.eq_false_iff]; intro h'; exact h (by simpa using h')
      rw [this]
      have hk : 0 < k := by
        rcases Nat.eq_zero_or_pos k with rfl | h'
        · simp at hu; omega
        · exact h'
      rw [List.map_append, ih (u / 10) (by rw [Nat.pow_succ] at hu; omega) hk]
      simp
      omega
def itoaQ : Int → List Nat
  | .ofNat u => digQ 20 u
  | .negSucc u => 45 :: digQ 20 (u + 1)
theorem itoaQ_eq (n : Int) (h0 : -9223372036854775808 ≤ n) (h1 : n ≤ 9223372036854775807) : (Lib.itoa n).map UInt8.toNat = itoaQ n := by
  unfold Lib.itoa
  cases n with
  | ofNat u =>
    rw [if_neg (by have := Int.natCast_nonneg u; simp only [Int.ofNat_eq_natCast]; omega)]
    refine digQ_eq 20 u ?_ (by omega)
    simp only [Int.ofNat_eq_natCast] at h1
    have : u ≤ 9223372036854775807 := by omega
    calc u ≤ 9223372036854775807 := this
      _ < 10 ^ 20 := by decide
  | negSucc u =>
    rw [if_pos (by rw [Int.negSucc_eq]; omega)]
    rw [List.map_cons]
    have e : (Int.negSucc u).natAbs = u + 1 := rfl
    rw [e, digQ_eq 20 (u + 1) ?_ (by omega)]
    · rfl
    · rw [Int.negSucc_eq] at h0
      have : u + 1 ≤ 9223372036854775808 := by omega
      calc u + 1 ≤ 9223372036854775808 := this
        _ < 10 ^ 20 := by decide
/-- does the list bear this table? -/
def hasTab (b : Nat) (l : List V) (g : List GK) : Bool := g.any fun k => match k with | .tab b' l' => Nat.beq b' b && veqs l' l | .err _ => false
theorem hasTab_ok {b : Nat} {l : List V} {g : List GK} (h : hasTab b l g = true) : GK.tab b l ∈ g := by
  unfold hasTab at h
  rw [List.any_eq_true] at h
  obtain ⟨k, hk, e⟩ := h
  cases k with
  | err b' => cases e
  | tab b' l' =>
    simp only [Bool.and_eq_true] at e
    have h1 := Nat.eq_of_beq_eq_true e.1
    have h2 := veqs_ok e.2
    subst h1 h2
    exact hk
def hasErr (b : Nat) (g : List GK) : Bool := g.any fun k => match k with | .err b' => Nat.beq b' b | .tab _ _ => false
theorem hasErr_ok {b : Nat} {g : List GK} (h : hasErr b g = true) : GK.err b ∈ g := by
  unfold hasErr at h
  rw [List.any_eq_true] at h
  obtain ⟨k, hk, e⟩ := h
  cases k with
  | tab b' l' => cases e
  | err b' => have h1 := Nat.eq_of_beq_eq_true e; subst h1; exact hk
theorem ints_of {zs : List Int} {k : IntKind} {l : List Value} (h : VRs μ0 (zs.map (V.i k)) l) : l = zs.map (Value.int k) := by
  induction zs generalizing l with
  | nil => cases h; rfl
  | cons z zs ih => cases h with | cons h h' => rw [h.int, ih h']; rfl
theorem tab_var {w : World} {b : Nat} {k : IntKind} {zs : List Int} {name : String} (h : (GK.tab b (zs.map (V.i k))).holds w) (hg : P.globalNamed name = some b) : Lib.TabIs P w name k zs := by
  obtain ⟨o, ho, C, e, fr, rfl, hv⟩ := h
  have := ints_of hv
  unfold Lib.TabIs World.var?
  rw [hg]
  simp only [Option.bind_some]
  have ho' : w.heap[b]? = some (.cells C e fr) := ho
  rw [ho']
  simp only [Option.some.injEq]
  show C = _
  rw [← Array.toList_inj, this]
def gItoa (b : Nat) (zs : List Int) : G := fun a h => match a with
  | [.i .i64 n] => bif (!ilt n (-9223372036854775808)) && ((!ilt 9223372036854775807 n) && hasTab b (zs.map (V.i .u64)) h.g) then some (.s (itoaQ n), h) else none
  | _ => none
theorem gItoa_ok {f b : Nat} {fn : Func} {c : Code} {zs : List Int} {name : String} (hf : P.funcs[f]? = some fn) (hb : fn.body = some c) (hname : (fn.name == "runtime.NumGoroutine") = false) (hg : P.globalNamed name = some b)
    (hc : ∀ (n : Int) (w : World), -9223372036854775808 ≤ n → n ≤ 9223372036854775807 → Lib.TabIs P w name .u64 zs →
      Calls P f #[.int .i64 n] w fun e w' => e = .returned (.string ⟨(Lib.itoa n).toArray⟩) ∧ ∃ k os, w' = grow (w.drewN k) os) : GOK P f (gItoa b zs) := by
  intro args h r h' e μ w args' hH hA
  unfold gItoa at e
  split at e
  · rename_i n
    cases hq : (!ilt n (-9223372036854775808)) && ((!ilt 9223372036854775807 n) && hasTab b (zs.map (V.i .u64)) h.g) with
    | false => rw [hq] at e; cases e
    | true =>
      rw [hq] at e
      simp only [cond_true, Option.some.injEq, Prod.mk.injEq] at e
      obtain ⟨rfl, rfl⟩ := e
      simp only [Bool.and_eq_true, Bool.not_eq_true', ilt_eq, decide_eq_false_iff_not] at hq
      obtain ⟨q1, q2, q3⟩ := hq
      obtain ⟨x, hl, h1⟩ := hA.one
      obtain rfl := h1.int
      obtain rfl := arr_of hl
      have r1 : -9223372036854775808 ≤ n := by omega
      have r2 : n ≤ 9223372036854775807 := by omega
      refine cdoes_of_calls hf hb hname ((hc n w r1 r2 (tab_var (hH.glb _ (hasTab_ok q3)).1 hg)).mono fun e w' ⟨he, k, os, hw⟩ => ⟨_, he, ?_⟩)
      subst hw
      refine does_quiet hH (Quiet.of_grow w k os) ?_
      rw [← itoaQ_eq n r1 r2]
      exact str_back _
  · cases e

/-! A new block somewhere behind the old ones -/
theorem Fr.newAt {μ : Mp} {h : H} {w w' : World} (hh : HRel μ h w) (q : Quiet w w') (x : B) {N : Nat} (hN : w.heap.size ≤ N) (sz : Nat) :
    Fr μ h w (upd μ h.n (N, 0, sz)) (h.new x) w' where
  ext := upd_ext (hh.dom h.n (Nat.le_refl _))
  n := by simp
  size := q.size
  keep d hd _ := q.keep d hd
  live d l := by
    obtain ⟨b, y, β, N', hb, hm⟩ := l
    rw [H.get_new] at hb
    unfold upd at hm
    split at hb
    · rename_i e; rw [if_pos e] at hm; cases hm; exact .inr hN
    · rename_i e; rw [if_neg e] at hm; exact .inl ⟨b, y, β, N', hb, hm⟩
  tape := q.tape
  os := q.os
  out := q.out
  g := rfl
theorem HRel.newAt {μ : Mp} {h : H} {w w' : World} (hh : HRel μ h w) (q : Quiet w w') (x : B) {N : Nat} (hN : w.heap.size ≤ N) (sz : Nat) (hr : BRel (upd μ h.n (N, 0, sz)) w' N 0 sz x) :
    HRel (upd μ h.n (N, 0, sz)) (h.new x) w' := by
  have hn := hh.dom h.n (Nat.le_refl _)
  refine ⟨fun d y hd => ?_, fun d d' y y' e β1 β2 N1 N2 hd hd' h1 h2 => ?_, fun d hd => ?_, (Fr.newAt hh q x hN sz).glb hh.glb⟩
  · rw [H.get_new] at hd
    split at hd
    · rename_i e; subst e; cases hd; exact ⟨_, _, _, upd_self _ _, hr⟩
    · obtain ⟨c', β', N', hm', hr'⟩ := hh.blk d y hd
      exact ⟨c', β', N', upd_ext hn _ _ hm', hr'.mono (upd_ext hn) (q.keep c' hr'.lt)⟩
  · rw [H.get_new] at hd hd'
    unfold upd at h1 h2
    split at hd <;> split at hd'
    · omega
    · rename_i e1 e2
      rw [if_pos e1] at h1; rw [if_neg e2] at h2; cases h1
      obtain ⟨c', β', N', hm', hr'⟩ := hh.blk d' y' hd'
      rw [hm'] at h2; cases h2
      exact absurd hr'.lt (by omega)
    · rename_i e1 e2
      rw [if_neg e1] at h1; rw [if_pos e2] at h2; cases h2
      obtain ⟨c', β', N', hm', hr'⟩ := hh.blk d y hd
      rw [hm'] at h1; cases h1
      exact absurd hr'.lt (by omega)
    · rename_i e1 e2
      rw [if_neg e1] at h1; rw [if_neg e2] at h2
      exact hh.inj d d' y y' e β1 β2 N1 N2 hd hd' h1 h2
  · simp at hd
    unfold upd
    rw [if_neg (by omega)]
    exact hh.dom d (by omega)

/-! Atoi -/
def gAtoi (bS bR te : Nat) : G := fun a h => match a with
  | [.s l] => bif Nat.ble l.length 65536 then (match Lib.atoiAll (l.map Nat.toUInt8) with
    | .ok v => some (.t [.i .i64 v, .ni], h)
    | .range => bif hasErr bR h.g then some (.t [.i .i64 (Lib.atoiSat (l.map Nat.toUInt8)), .ic te (.p h.n 0)], h.new (.cells [])) else none
    | _ => bif hasErr bS h.g then some (.t [.i .i64 0, .ic te (.p h.n 0)], h.new (.cells [])) else none) else none
  | _ => none
theorem numEnd_cases (e : Lib.NumEnd Int) (h1 : ∀ v, e ≠ .ok v) (h2 : e ≠ .range) : e = Lib.atoiAll [] := by
  cases e <;> first | rfl | exact absurd rfl (h1 _) | exact absurd rfl h2
theorem err_cell {w : World} {b : Nat} (h : (GK.err b).holds w) : ∃ tp p, w.cell? ⟨b, 0, none⟩ = some (.iface tp p) := by
  obtain ⟨o, ho, tp, p, e, fr, rfl⟩ := h
  refine ⟨tp, p, ?_⟩
  have ho' : w.heap[b]? = some (.cells #[.iface tp p] e fr) := ho
  simp [World.cell?, ho']
theorem gAtoi_ok {f bS bR te t5 : Nat} {fn : Func} {c : Code} {et : TypeId} {txt : Value} (hf : P.funcs[f]? = some fn) (hb : fn.body = some c) (hname : (fn.name == "runtime.NumGoroutine") = false)
    (hok : ∀ (s : ByteArray) (_ : s.size ≤ 9223372036854775806) (v : Int) (_ : Lib.atoiAll s.data.toList = .ok v) (w : World), Calls P f #[.string s] w fun e w' => e = .returned (.tuple #[.int .i64 v, .nilIface]) ∧ (w' = w ∨ ∃ t, w' = Lib.bytesWorld w t5 t))
    (hs : ∀ (s : ByteArray) (_ : s.size ≤ 281474976710656) (_ : Lib.atoiAll s.data.toList = Lib.atoiAll []) (ev : Value) (w : World) (_ : w.cell? ⟨bS, 0, none⟩ = some ev) (_ : ev = .nilIface ∨ ∃ te pe, ev = .iface te pe),
      Calls P f #[.string s] w fun e w' => ∃ N, e = .returned (.tuple #[.int .i64 0, .iface te (.pointer (some ⟨N, 0, none⟩))]) ∧ w.heap.size ≤ N ∧ w'.heap[N]? = some (.cells #[txt, .string s, ev] et (0, 0)) ∧ Below w.heap.size w w')
    (hr : ∀ (s : ByteArray) (_ : s.size ≤ 281474976710656) (_ : Lib.atoiAll s.data.toList = .range) (ev : Value) (w : World) (_ : w.cell? ⟨bR, 0, none⟩ = some ev) (_ : ev = .nilIface ∨ ∃ te pe, ev = .iface te pe),
      Calls P f #[.string s] w fun e w' => ∃ N, e = .returned (.tuple #[.int .i64 (Lib.atoiSat s.data.toList), .iface te (.pointer (some ⟨N, 0, none⟩))]) ∧ w.heap.size ≤ N ∧ w'.heap[N]? = some (.cells #[txt, .string s, ev] et (0, 0)) ∧ Below w.heap.size w w') : GOK P f (gAtoi bS bR te) := by
  intro args h r h' e μ w args' hH hA
  unfold gAtoi at e
  split at e
  · rename_i l
    cases hq : Nat.ble l.length 65536 with
    | false => rw [hq] at e; cases e
    | true =>
      rw [hq] at e
      simp only [cond_true] at e
      obtain ⟨x, hl, h1⟩ := hA.one
      obtain ⟨s, rfl, rfl⟩ := h1.str
      obtain rfl := arr_of hl
      have z := Nat.le_of_ble_eq_true hq
      simp only [List.length_map, Array.length_toList] at z
      rw [toU8] at e
      have bad : ∀ (n : Int) (N : Nat) (ev : Value) (w' : World), w.heap.size ≤ N → w'.heap[N]? = some (.cells #[txt, .string s, ev] et (0, 0)) → Below w.heap.size w w' →
          ∃ μ', HRel μ' (h.new (.cells [])) w' ∧ Fr μ h w μ' (h.new (.cells [])) w' ∧ VRel μ' (.t [.i .i64 n, .ic te (.p h.n 0)]) (.tuple #[.int .i64 n, .iface te (.pointer (some ⟨N, 0, none⟩))]) := by
        intro n N ev w' hN hcell hbel
        refine ⟨upd μ h.n (N, 0, 3), hH.newAt (Quiet.of_below hbel) (.cells []) hN 3 ?_, Fr.newAt hH (Quiet.of_below hbel) (.cells []) hN 3, ?_⟩
        · exact ⟨⟨_, _, _, hcell, rfl, fun i h1 h2 => by omega, fun i x hx => by simp at hx⟩, by simp⟩
        · refine .t (.cons (.i _ _) (.cons (.ic ?_) .nil))
          have := VRel.p (μ := upd μ h.n (N, 0, 3)) (b := h.n) (o := 0) (upd_self _ _)
          simpa using this
      split at e
      · rename_i v hv
        simp only [Option.some.injEq, Prod.mk.injEq] at e
        obtain ⟨rfl, rfl⟩ := e
        refine cdoes_of_calls hf hb hname ((hok s (by show s.data.size ≤ _; omega) v hv w).mono fun e w' ⟨he, hw⟩ => ⟨_, he, ?_⟩)
        refine does_quiet hH ?_ (.t (.cons (.i _ _) (.cons .ni .nil)))
        rcases hw with rfl | ⟨t, rfl⟩
        · exact Quiet.refl _
        · exact Quiet.of_bytes _ _ _
      · rename_i hv
        cases hE : hasErr bR h.g with
        | false => rw [hE] at e; cases e
        | true =>
          rw [hE] at e
          simp only [cond_true, Option.some.injEq, Prod.mk.injEq] at e
          obtain ⟨rfl, rfl⟩ := e
          obtain ⟨tp, p, hcell⟩ := err_cell (hH.glb _ (hasErr_ok hE)).1
          exact cdoes_of_calls hf hb hname ((hr s (by show s.data.size ≤ _; omega) hv _ w hcell (.inr ⟨tp, p, rfl⟩)).mono fun e w' ⟨N, he, hN, hc, hbel⟩ => ⟨_, he, bad _ N _ w' hN hc hbel⟩)
      · rename_i h1 h2
        have hv := numEnd_cases _ (fun v e => h1 v e) (fun e => h2 e)
        cases hE : hasErr bS h.g with
        | false => rw [hE] at e; cases e
        | true =>
          rw [hE] at e
          simp only [cond_true, Option.some.injEq, Prod.mk.injEq] at e
          obtain ⟨rfl, rfl⟩ := e
          obtain ⟨tp, p, hcell⟩ := err_cell (hH.glb _ (hasErr_ok hE)).1
          exact cdoes_of_calls hf hb hname ((hs s (by show s.data.size ≤ _; omega) hv _ w hcell (.inr ⟨tp, p, rfl⟩)).mono fun e w' ⟨N, he, hN, hc, hbel⟩ => ⟨_, he, bad _ N _ w' hN hc hbel⟩)
  · cases e

/-! Join -/
def unS : List V → Option (List (List Nat))
  | [] => some []
  | .s l :: r => match unS r with
    | some x => some (l :: x)
    | none => none
  | _ :: _ => none
def joinT (sep : List Nat) : List (List Nat) → List Nat
  | [] => []
  | x :: r => sep ++ (x ++ joinT sep r)
def joinQ (sep : List Nat) : List (List Nat) → List Nat
  | [] => []
  | x :: r => x ++ joinT sep r
def gJoin : G := fun a h => match a with
  | [x, .s sep] => match cellsOf h 1 x with
    | some cs => match unS cs with
      | some xs => bif Nat.ble (joinQ sep xs).length 1048576 && Nat.ble xs.length 1048576 then some (.s (joinQ sep xs), h) else none
      | none => none
    | none => none
  | _ => none
theorem unS_ok {μ : Mp} {cs : List V} : ∀ {xs : List (List Nat)} {ys : List Value}, unS cs = some xs → VRs μ cs ys → ∃ bs : List ByteArray, ys = bs.map Value.string ∧ xs = bs.map fun b => b.data.toList.map UInt8.toNat := by
  induction cs with
  | nil => intro xs ys h hv; cases hv; simp [unS] at h; subst h; exact ⟨[], rfl, rfl⟩
  | cons c cs ih =>
    intro xs ys h hv
    cases hv with
    | cons h1 h2 =>
      cases c with
      | s l =>
        simp only [unS] at h
        split at h
        · rename_i x hx
          cases h
          obtain ⟨bs, rfl, rfl⟩ := ih hx h2
          obtain ⟨b, rfl, rfl⟩ := h1.str
          exact ⟨b :: bs, rfl, rfl⟩
        · cases h
      | _ => simp [unS] at h
theorem joinT_eq (sep : List UInt8) (xs : List (List UInt8)) : joinT (sep.map UInt8.toNat) (xs.map fun x => x.map UInt8.toNat) = (Lib.joinTail sep xs).map UInt8.toNat := by
  induction xs with
  | nil => rfl
  | cons x r ih => simp only [List.map_cons, joinT, ih, Lib.joinTail, List.flatten_cons, List.map_append, List.append_assoc]
theorem join_tail (sep : List UInt8) (x : List UInt8) (r : List (List UInt8)) : Lib.join (x :: r) sep = x ++ Lib.joinTail sep r := by
  unfold Lib.join Lib.joinTail
  induction r generalizing x with
  | nil => simp [List.intercalate]
  | cons y r ih =>
    have e : sep.intercalate (x :: y :: r) = x ++ (sep ++ sep.intercalate (y :: r)) := by simp [List.intercalate, List.intersperse]
    rw [e, ih y]
    simp
theorem joinQ_eq (sep : List UInt8) (xs : List (List UInt8)) : joinQ (sep.map UInt8.toNat) (xs.map fun x => x.map UInt8.toNat) = (Lib.join xs sep).map UInt8.toNat := by
  cases xs with
  | nil => rfl
  | cons x r => rw [join_tail, List.map_append, ← joinT_eq]; rfl
theorem gJoin_ok {f : Nat} {fn : Func} {c : Code} (hf : P.funcs[f]? = some fn) (hb : fn.body = some c) (hname : (fn.name == "runtime.NumGoroutine") = false)
    (h0 : ∀ (a : Option Addr) (c : Nat) (sep : ByteArray) (w : World), Calls P f #[.slice a 0 c, .string sep] w fun e w' => e = .returned (.string ⟨#[]⟩) ∧ w' = w)
    (hc : ∀ (bk o c : Nat) (xs : List ByteArray) (sep : ByteArray) (w : World) (_ : ∀ (j : Nat) x, xs[j]? = some x → w.cell? ⟨bk, o + j, none⟩ = some (.string x))
      (_ : bk < w.heap.size) (_ : xs.length ≤ 140737488355328) (_ : xs.length ≤ c) (_ : (Lib.join (xs.map (·.data.toList)) sep.data.toList).length ≤ 140737488355328),
      Calls P f #[.slice (some ⟨bk, o, none⟩) xs.length c, .string sep] w fun e w' => e = .returned (.string ⟨(Lib.join (xs.map (·.data.toList)) sep.data.toList).toArray⟩) ∧ Below w.heap.size w w') : GOK P f gJoin := by
  intro args h r h' e μ w args' hH hA
  unfold gJoin at e
  split at e
  · rename_i x sep
    split at e
    · rename_i cs hcs
      split at e
      · rename_i xs hxs
        cases hq : Nat.ble (joinQ sep xs).length 1048576 && Nat.ble xs.length 1048576 with
        | false => rw [hq] at e; cases e
        | true =>
          rw [hq] at e
          simp only [cond_true, Option.some.injEq, Prod.mk.injEq] at e
          obtain ⟨rfl, rfl⟩ := e
          simp only [Bool.and_eq_true] at hq
          have z1 := Nat.le_of_ble_eq_true hq.1
          have z2 := Nat.le_of_ble_eq_true hq.2
          obtain ⟨x', y', hl, h1, h2⟩ := hA.two
          obtain ⟨sp, rfl, rfl⟩ := h2.str
          rcases cellsOf_ok hH h1 hcs with ⟨rfl, rfl, rfl⟩ | ⟨b, o, n, cap, c', β, N, a, k, ds, rfl, rfl, hrow, hp, ha, hnk, hmu, hget⟩
          · obtain rfl := arr_of hl
            simp only [unS, Option.some.injEq] at hxs
            subst hxs
            refine cdoes_of_calls hf hb hname ((h0 none 0 sp w).mono fun e w' ⟨he, hw⟩ => ⟨_, he, ?_⟩)
            subst hw
            exact does_quiet hH (Quiet.refl _) (.s _ _ rfl)
          · obtain rfl := arr_of hl
            obtain ⟨plen, hpc, hple⟩ := part_some hp
            rw [Nat.mul_one] at plen
            -- the cells
            have hcell : ∀ (j : Nat) v, cs[j]? = some v → ∃ y, w.cell? ⟨c', β + o + j, none⟩ = some y ∧ VRel μ v y := by
              intro j v hv
              have hj : j < cs.length := (List.getElem?_eq_some_iff.1 hv).1
              rw [hpc] at hv
              rw [List.getElem?_take] at hv
              split at hv
              · rw [List.getElem?_drop] at hv
                obtain ⟨C, ty, fr, hC, hs, hfz, hvs⟩ := hrow.ex
                obtain ⟨y, hy, hr, _⟩ := hvs _ _ hv
                refine ⟨y, ?_, hr⟩
                simp only [World.cell?, hC]
                rw [Nat.add_assoc]
                simpa using hy
              · cases hv
            -- their strings
            have hvals : ∃ ys : List Value, VRs μ cs ys ∧ ∀ (j : Nat) y, ys[j]? = some y → w.cell? ⟨c', β + o + j, none⟩ = some y := by
              clear hxs hpc plen hp hA h1 hl hcs
              have key : ∀ (l : List V) (q : Nat), (∀ (j : Nat) v, l[j]? = some v → ∃ y, w.cell? ⟨c', q + j, none⟩ = some y ∧ VRel μ v y) → ∃ ys : List Value, VRs μ l ys ∧ ∀ (j : Nat) y, ys[j]? = some y → w.cell? ⟨c', q + j, none⟩ = some y := by
                intro l
                induction l with
                | nil => intro q _; exact ⟨[], .nil, by simp⟩
                | cons v l ih =>
                  intro q hq'
                  obtain ⟨y, hy, hvy⟩ := hq' 0 v rfl
                  obtain ⟨ys, h1, h2⟩ := ih (q + 1) (fun j v' hv' => by
                    obtain ⟨y', a1, a2⟩ := hq' (j + 1) v' (by simpa using hv')
                    exact ⟨y', by rw [show q + 1 + j = q + (j + 1) by omega]; exact a1, a2⟩)
                  refine ⟨y :: ys, .cons hvy h1, fun j y' hj => ?_⟩
                  cases j with
                  | zero => simp at hj; subst hj; simpa using hy
                  | succ j =>
                    have := h2 j y' (by simpa using hj)
                    rw [show q + (j + 1) = q + 1 + j by omega]; exact this
              exact key cs (β + o) hcell
            obtain ⟨ys, hvr, hyc⟩ := hvals
            obtain ⟨bs, rfl, rfl⟩ := unS_ok hxs hvr
            have hlen : bs.length = n := by
              have := hvr.length
              rw [plen] at this
              simpa using this.symm
            have ej : (bs.map fun b => b.data.toList.map UInt8.toNat) = (bs.map (·.data.toList)).map fun x => x.map UInt8.toNat := by rw [List.map_map]; rfl
            rw [ej, joinQ_eq] at z1 ⊢
            simp only [List.length_map] at z1 z2
            subst hlen
            have hcc : ∀ (j : Nat) x, bs[j]? = some x → w.cell? ⟨c', a + j, none⟩ = some (.string x) := by
              intro j x hj
              have hlt : j < bs.length := (List.getElem?_eq_some_iff.1 hj).1
              have : a = β + o := by rcases ha with h | h; · omega
                                     · exact h
              rw [this]
              exact hyc j (.string x) (by simp [hj])
            refine cdoes_of_calls hf hb hname ((hc c' a k bs sp w hcc hrow.lt (by omega) hnk (by omega)).mono fun e w' ⟨he, hbel⟩ => ⟨_, he, ?_⟩)
            exact does_quiet hH (Quiet.of_below hbel) (str_back _)
      · cases e
    · cases e
  · cases e
end
end Am
namespace Am
open Go
variable {P : Program}
theorem tab_holds {w : World} {name : String} {k : IntKind} {zs : List Int} {b : Nat} (h : Lib.TabIs P w name k zs) (hg : P.globalNamed name = some b) : (GK.tab b (zs.map (V.i k))).holds w := by
  unfold Lib.TabIs World.var? at h
  rw [hg] at h
  simp only [Option.bind_some] at h
  split at h
  · rename_i cs e fr hc
    cases h
    refine ⟨_, hc, _, e, fr, rfl, ?_⟩
    have key : ∀ l : List Int, VRs (fun _ => none) (l.map (V.i k)) (l.map fun z => Value.int k z) := by
      intro l
      induction l with
      | nil => exact .nil
      | cons z l ih => exact .cons (.i _ _) ih
    simpa using key zs
  · cases h
theorem err_holds {w : World} {name : String} {b : Nat} {tp : TypeId} {p : Value} (h : w.var? P name = some #[.iface tp p]) (hg : P.globalNamed name = some b) : (GK.err b).holds w := by
  unfold World.var? at h
  rw [hg] at h
  simp only [Option.bind_some] at h
  split at h
  · rename_i cs e fr hc
    cases h
    exact ⟨_, hc, tp, p, e, fr, rfl⟩
  · cases h
end Am
