/- THE ABSTRACT MACHINE, part 2: that a call which it evaluates returns in the model with a value, memory and frame related to what was evaluated; an evaluator made for the kernel, equal to it. -/
import Derived.Test.YtonkmclifimcmaaGreatDoorAm1
import Derived.DeepKeys3
import Derived.Lib.Bytealg
import GoSem.ClaimChange
import Derived.ChangeShapes
import Derived.RowKit
import Derived.WalkKit
import Derived.ProofKit
import Derived.OpenShut
import Derived.Deep.DeepHandedRow
namespace Am
open Go
variable {P : Program} {T : TT} {call : CallT} {μ : Mp}
/-- what a call of a function does -/
def CDoes (P : Program) (f : FuncId) (args : Array Value) (w : World) (R : Value → World → Prop) : Prop :=
  (∃ y w', R y w' ∧ (callFunc f args).run P w = .ok (.value y) w') ∨
  ∃ w1, (callFunc f args).run P w = .ok (.enter f args) w1 ∧ Calls P f args w1 fun
    | .returned y, w' => R y w'
    | .outgrown, _ => False
    | .panicked _, _ => False
def CallOK (P : Program) (call : CallT) : Prop :=
  ∀ f args h r h', call f args h = some (r, h') → ∀ μ w args', HRel μ h w → VRs μ args args'.toList →
    CDoes P f args' w fun y w' => ∃ μ', HRel μ' h' w' ∧ Fr μ h w μ' h' w' ∧ VRel μ' r y

theorem run_builtin {b : Builtin} {ev : Operand → Value} {d : Option Nat} {args : Array Operand} {at_ : Array TypeId} {ty : Nat} {pos : String} {af : Array Edge} {g : Option (Nat × Bool)} {w w' : World} {y : Value} {s : Sem Value}
    (hs : ∀ consts, builtin b at_ ty consts (args.map ev) = (do pure (.value (← s)))) (h : s.run P w = .ok y w') :
    (execOp ev ⟨d, .call ⟨.builtin b, args, at_⟩, ty, pos, af, g⟩).run P w = .ok (.value y) w' := by
  simp [execOp, resolve, invoke, hs, h]
theorem Rs.ofP_ok {ls ls' : Ls} {h' : H} {x : Option (V × H)} {v : V} (e : Rs.ofP ls x = .ok v ls' h') : x = some (v, h') ∧ ls' = ls := by
  cases x with
  | none => simp [Rs.ofP] at e
  | some p => obtain ⟨a, b⟩ := p; simp [Rs.ofP] at e; obtain ⟨rfl, rfl, rfl⟩ := e; exact ⟨rfl, rfl⟩

theorem ok_append (d : Option Nat) (args : Array Operand) (at_ : Array TypeId) (ty : Nat) (pos : String) (af : Array Edge) (g : Option (Nat × Bool)) : OpOK P T call ⟨d, .call ⟨.builtin .append, args, at_⟩, ty, pos, af, g⟩ := by
  intro kd c μ κ vs ts ls h w w₀ ev v ls' h' hx he
  obtain ⟨args⟩ := args
  obtain ⟨at_⟩ := at_
  rcases args with _ | ⟨x, _ | ⟨y, _ | ⟨z, r⟩⟩⟩ <;> rcases at_ with _ | ⟨t, _ | ⟨u, _ | ⟨q, r'⟩⟩⟩ <;> try (simp [compO, callO, evO, e_no] at he; done)
  simp only [compO, callO] at he ⊢
  cases ht : tUnd T t with
  | none => simp [ht, evO, e_no] at he
  | some dt =>
  rw [ht] at he
  cases dt <;> try (simp [evO, e_no] at he; done)
  rename_i e
  simp only at he ⊢
  have hP := tUnd_ok hx.T ht
  cases hi : tInfo T e with
  | none => simp [hi, evO, e_no] at he
  | some ti =>
  cases hX : opd kd c x with
  | none => simp [hi, hX, evO, e_no] at he
  | some X =>
  have rx := hx.O.v _ _ (by simp [Op.operands, Call.operands]) hX
  simp only [hi, hX] at he ⊢
  have fin : ∀ {h' : H} {op : O} (x' : Value), boxed op = none → ev y = x' → (∃ z w' μ', (Builtin.append_ #[t, u] ty #[ev x, x']).run P w = .ok z w' ∧ HRel μ' h' w' ∧ Fr μ h w μ' h' w' ∧ VRel μ' v z) →
      Does P ⟨d, .call ⟨.builtin .append, ⟨[x, y]⟩, ⟨[t, u]⟩⟩, ty, pos, af, g⟩ ev w (Res μ κ h w w₀ op none v ls h') := by
    intro h' op x' hb hy ⟨z, w', μ', h1, h2, h3, h4⟩
    refine Does.heap hx h2 h3 h4 hb (.inl (run_builtin (s := Builtin.append_ #[t, u] ty #[ev x, x']) (fun consts => ?_) h1))
    subst hy
    simp [builtin]
  cases hu : tUnd T u with
  | none => simp [hu, evO, e_no] at he
  | some du =>
  rw [hu] at he
  have hPu := tUnd_ok hx.T hu
  cases du <;> try (simp [evO, e_no] at he; done)
  case string =>
    simp only at he ⊢
    cases hY : opd kd c y with
    | none => simp [hY, evO, e_no] at he
    | some Y =>
    have ry := hx.O.v _ _ (by simp [Op.operands, Call.operands]) hY
    cases hs : Nat.beq ti.sz 1 with
    | false => simp [hs, hY, evO, e_no] at he
    | true =>
    have hs1 : ti.sz = 1 := by simpa [Nat.beq_eq] using hs
    simp only [hY, hs, cond_true, evO, e_appS] at he ⊢
    split at he
    · rename_i r hr
      obtain ⟨ea, rfl⟩ := Rs.ofP_ok he
      rw [hr] at ry
      generalize hvy : ev y = y' at ry
      cases ry with | s l s' hl =>
      have hv := vbytes_ok (μ := μ) s'
      rw [hl] at hv
      have hsz := bytes_len hl
      rw [← hs1] at ea
      rw [slen_eq, Nat.add_zero] at ea
      refine fin _ rfl hvy (append_ok hx.T hP hi hPu (by intro k h; cases h) hx.H rx hv.1 hv.2 (k := r.length) (fun w => by simp [Builtin.lenOf, hsz]) (fun w1 _ => ?_) ?_ ea)
      · simp only [Builtin.firstCells, Sem.run_pure]
        congr 1
        rw [← hsz]
        apply Array.ext'
        simp
      · have := hv.1.length
        rw [this, hs1]
        simp [← hl]
    · cases he
  case slice e' =>
    simp only at he ⊢
    have heap : evO call vs ts ls h (match opd kd c y with | some y => O.app X y ti.sz ti.by_ | none => O.no) = .ok v ls' h' →
        Does P ⟨d, .call ⟨.builtin .append, ⟨[x, y]⟩, ⟨[t, u]⟩⟩, ty, pos, af, g⟩ ev w (Res μ κ h w w₀ (match opd kd c y with | some y => O.app X y ti.sz ti.by_ | none => O.no) none v ls' h') := by
      intro he
      cases hY : opd kd c y with
      | none => simp [hY, evO, e_no] at he
      | some Y =>
      have ry := hx.O.v _ _ (by simp [Op.operands, Call.operands]) hY
      simp only [hY, evO, e_app] at he ⊢
      split at he
      · rename_i new hnew
        obtain ⟨ea, rfl⟩ := Rs.ofP_ok he
        rcases cellsOf_ok hx.H ry hnew with ⟨h1, hy, rfl⟩ | ⟨b, o, n, cap, c', β, N, a, k, cs', h1, h2, hrow, hp, ha, hn, hmu, hg⟩
        · rw [h1] at ea
          exact fin _ rfl hy (append_ok hx.T hP hi hPu (by intro k h; cases h) hx.H rx .nil (by simp [oneCells]) (k := 0) (fun w => by simp [Builtin.lenOf]) (fun w1 _ => by simp [Builtin.firstCells]) (by simp) ea)
        · rw [h1] at ea
          have ha' : n * ti.sz = 0 ∨ a = β + o := by
            rcases ha with h | h
            · left
              have : n = 0 := by omega
              subst this; simp
            · exact .inr h
          obtain ⟨ys, f1, f2, f3⟩ := firstCells_H (P := P) (k := k) hrow hp ha'
          exact fin _ rfl h2 (append_ok hx.T hP hi hPu (by intro k h; cases h) hx.H rx f2 f3 (k := n) (fun w => by simp [Builtin.lenOf]) (fun w1 hw => f1 w1 (by rcases hw with rfl | rfl <;> rfl)) (part_some hp).1 ea)
      · cases he
    cases hl : lpl true kd c y with
    | none => simp only [hl] at he ⊢; exact heap he
    | some p =>
      obtain ⟨s, q⟩ := p
      cases q with
      | none => simp only [hl] at he ⊢; exact heap he
      | some q =>
        simp only [hl, evO, e_appL] at he ⊢
        split at he
        · rename_i p n cs hd hs
          split at he
          · rename_i new hnew
            obtain ⟨ea, rfl⟩ := Rs.ofP_ok he
            obtain ⟨b, q', k, hk, hy, hq, hn⟩ := hx.O.sl _ _ _ _ _ _ (by simp [Op.operands, Call.operands]) hl hd hs
            obtain ⟨b', hb', hrow, _, _⟩ := hx.L.blk s cs hs
            rw [hk] at hb'
            cases hb'
            have ha' : n * ti.sz = 0 ∨ q' = 0 + p := by
              rcases hq with h | h
              · left
                have : n = 0 := by omega
                subst this; simp
              · right; omega
            obtain ⟨ys, f1, f2, f3⟩ := firstCells_H (P := P) (k := k) hrow hnew ha'
            exact fin _ rfl hy (append_ok hx.T hP hi hPu (by intro k h; cases h) hx.H rx f2 f3 (k := n) (fun w => by simp [Builtin.lenOf]) (fun w1 hw => f1 w1 (by rcases hw with rfl | rfl <;> rfl)) (part_some hnew).1 ea)
          · cases he
        · cases he
end Am
namespace Am
open Go
variable {P : Program} {T : TT} {call : CallT} {μ : Mp}
theorem getObj_run {r : Nat} {E : Array MapEntry} {k : Nat} {w : World} (h : w.heap[r]? = some (.map E k)) : (getObj r).run P w = .ok (.map E k) w := by
  simp [getObj, Sem.run, h]
theorem ok_len (d : Option Nat) (args : Array Operand) (at_ : Array TypeId) (ty : Nat) (pos : String) (af : Array Edge) (g : Option (Nat × Bool)) : OpOK P T call ⟨d, .call ⟨.builtin .len, args, at_⟩, ty, pos, af, g⟩ := by
  intro kd c μ κ vs ts ls h w w₀ ev v ls' h' hx he
  obtain ⟨args⟩ := args
  obtain ⟨at_⟩ := at_
  rcases args with _ | ⟨x, _ | ⟨y, r⟩⟩ <;> rcases at_ with _ | ⟨t, _ | ⟨u, r'⟩⟩ <;> try (simp [compO, callO, evO, e_no] at he; done)
  simp only [compO, callO] at he ⊢
  cases ht : tUnd T t with
  | none => simp [ht, evO, e_no] at he
  | some dt =>
  rw [ht] at he
  have hP := tUnd_ok hx.T ht
  have fin : ∀ {op : O} (n : Nat), boxed op = none → ls' = ls → h' = h → v = .i .i64 (.ofNat n) → (Builtin.len_ #[t] ty #[ev x]).run P w = .ok (goInt n) w →
      Does P ⟨d, .call ⟨.builtin .len, ⟨[x]⟩, ⟨[t]⟩⟩, ty, pos, af, g⟩ ev w (Res μ κ h w w₀ op none v ls' h') := by
    intro op n hb h1 h2 hv h3
    subst h1 h2 hv
    exact Does.pure hx (.i _ _) hb (run_builtin (s := Builtin.len_ #[t] ty #[ev x]) (fun consts => by simp [builtin]) h3)
  cases dt <;> try (simp [evO, e_no] at he; done)
  case string =>
    simp only at he ⊢
    cases hX : opd kd c x with
    | none => simp [hX, evO, e_no] at he
    | some X =>
    have rx := hx.O.v _ _ (by simp [Op.operands, Call.operands]) hX
    simp only [hX, evO, e_lenS] at he ⊢
    split at he
    · rename_i r hr
      rw [hr] at rx
      generalize hvy : ev x = y' at rx
      cases rx with | s l s' hl =>
      simp only [Rs.ok.injEq, slen_eq, Nat.add_zero] at he
      obtain ⟨rfl, rfl, rfl⟩ := he
      refine fin _ rfl rfl rfl rfl ?_
      simp only [Builtin.len_, List.getElem?_toArray, List.getElem?_cons_zero, Sem.run_bind, run_underlying hP, Result.andThen_ok, hvy, Sem.run_pure, bytes_len hl]
    · cases he
  case array n e =>
    simp only [evO, e_lenA, Rs.ok.injEq] at he ⊢
    obtain ⟨rfl, rfl, rfl⟩ := he
    refine fin _ rfl rfl rfl rfl ?_
    simp only [Builtin.len_, List.getElem?_toArray, List.getElem?_cons_zero, Sem.run_bind, run_underlying hP, Result.andThen_ok, Sem.run_pure]
  case slice e =>
    simp only at he ⊢
    cases hX : opd kd c x with
    | none => simp [hX, evO, e_no] at he
    | some X =>
    have rx := hx.O.v _ _ (by simp [Op.operands, Call.operands]) hX
    simp only [hX, evO, e_lenL] at he ⊢
    split at he
    · rename_i hr
      rw [hr] at rx
      generalize hvy : ev x = y' at rx
      cases rx
      simp only [Rs.ok.injEq] at he
      obtain ⟨rfl, rfl, rfl⟩ := he
      refine fin 0 rfl rfl rfl rfl ?_
      simp only [Builtin.len_, List.getElem?_toArray, List.getElem?_cons_zero, Sem.run_bind, run_underlying hP, Result.andThen_ok, hvy, Sem.run_pure]
    · rename_i hr
      rw [hr] at rx
      generalize hvy : ev x = y' at rx
      cases rx
      simp only [Rs.ok.injEq] at he
      obtain ⟨rfl, rfl, rfl⟩ := he
      refine fin _ rfl rfl rfl rfl ?_
      simp only [Builtin.len_, List.getElem?_toArray, List.getElem?_cons_zero, Sem.run_bind, run_underlying hP, Result.andThen_ok, hvy, Sem.run_pure]
    · rename_i hr
      rw [hr] at rx
      cases rx
    · cases he
  case map kt vt =>
    simp only at he ⊢
    cases hX : opd kd c x with
    | none => simp [hX, evO, e_no] at he
    | some X =>
    have rx := hx.O.v _ _ (by simp [Op.operands, Call.operands]) hX
    simp only [hX, evO, e_lenM] at he ⊢
    split at he
    · rename_i hr
      rw [hr] at rx
      generalize hvy : ev x = y' at rx
      cases rx
      simp only [Rs.ok.injEq] at he
      obtain ⟨rfl, rfl, rfl⟩ := he
      refine fin 0 rfl rfl rfl rfl ?_
      simp only [Builtin.len_, List.getElem?_toArray, List.getElem?_cons_zero, Sem.run_bind, run_underlying hP, Result.andThen_ok, hvy, Sem.run_pure]
      rfl
    · rename_i r hr
      rw [hr] at rx
      generalize hvy : ev x = y' at rx
      cases rx with | m hmu =>
      split at he
      · rename_i es hes
        simp only [Rs.ok.injEq] at he
        obtain ⟨rfl, rfl, rfl⟩ := he
        obtain ⟨c', β', N', hm, E, k, hE, hV⟩ := hx.H.blk _ _ hes
        rw [hmu] at hm
        cases hm
        have hlen : es.length = E.size := by
          have : ∀ {es : List (V × V)} {l : List MapEntry}, VPs μ es l → es.length = l.length := by
            intro es l hv
            induction hv with
            | nil => rfl
            | cons _ _ _ ih => simp [ih]
          simpa using this hV
        refine fin _ rfl rfl rfl rfl ?_
        simp only [Builtin.len_, List.getElem?_toArray, List.getElem?_cons_zero, Sem.run_bind, run_underlying hP, Result.andThen_ok, hvy, getObj_run hE, Sem.run_pure, hlen]
      · cases he
    · cases he
  case pointer a =>
    simp only at he ⊢
    cases ha : tUnd T a with
    | none => simp [ha, evO, e_no] at he
    | some da =>
    rw [ha] at he
    cases da <;> try (simp [evO, e_no] at he; done)
    simp only [evO, e_lenA, Rs.ok.injEq] at he ⊢
    obtain ⟨rfl, rfl, rfl⟩ := he
    refine fin _ rfl rfl rfl rfl ?_
    simp only [Builtin.len_, List.getElem?_toArray, List.getElem?_cons_zero, Sem.run_bind, run_underlying hP, run_underlying (tUnd_ok hx.T ha), Result.andThen_ok, Sem.run_pure]

theorem ok_cap (d : Option Nat) (args : Array Operand) (at_ : Array TypeId) (ty : Nat) (pos : String) (af : Array Edge) (g : Option (Nat × Bool)) : OpOK P T call ⟨d, .call ⟨.builtin .cap, args, at_⟩, ty, pos, af, g⟩ := by
  intro kd c μ κ vs ts ls h w w₀ ev v ls' h' hx he
  obtain ⟨args⟩ := args
  obtain ⟨at_⟩ := at_
  rcases args with _ | ⟨x, _ | ⟨y, r⟩⟩ <;> rcases at_ with _ | ⟨t, _ | ⟨u, r'⟩⟩ <;> try (simp [compO, callO, evO, e_no] at he; done)
  simp only [compO, callO] at he ⊢
  cases ht : tUnd T t with
  | none => simp [ht, evO, e_no] at he
  | some dt =>
  rw [ht] at he
  have hP := tUnd_ok hx.T ht
  have fin : ∀ {op : O} (n : Nat), boxed op = none → ls' = ls → h' = h → v = .i .i64 (.ofNat n) → (Builtin.cap_ #[t] ty #[ev x]).run P w = .ok (goInt n) w →
      Does P ⟨d, .call ⟨.builtin .cap, ⟨[x]⟩, ⟨[t]⟩⟩, ty, pos, af, g⟩ ev w (Res μ κ h w w₀ op none v ls' h') := by
    intro op n hb h1 h2 hv h3
    subst h1 h2 hv
    exact Does.pure hx (.i _ _) hb (run_builtin (s := Builtin.cap_ #[t] ty #[ev x]) (fun consts => by simp [builtin]) h3)
  cases dt <;> try (simp [evO, e_no] at he; done)
  case array n e =>
    simp only [evO, e_lenA, Rs.ok.injEq] at he ⊢
    obtain ⟨rfl, rfl, rfl⟩ := he
    refine fin _ rfl rfl rfl rfl ?_
    simp only [Builtin.cap_, List.getElem?_toArray, List.getElem?_cons_zero, Sem.run_bind, run_underlying hP, Result.andThen_ok, Sem.run_pure]
  case slice e =>
    simp only at he ⊢
    cases hX : opd kd c x with
    | none => simp [hX, evO, e_no] at he
    | some X =>
    have rx := hx.O.v _ _ (by simp [Op.operands, Call.operands]) hX
    simp only [hX, evO, e_capL] at he ⊢
    split at he
    · rename_i hr
      rw [hr] at rx
      generalize hvy : ev x = y' at rx
      cases rx
      simp only [Rs.ok.injEq] at he
      obtain ⟨rfl, rfl, rfl⟩ := he
      refine fin 0 rfl rfl rfl rfl ?_
      simp only [Builtin.cap_, List.getElem?_toArray, List.getElem?_cons_zero, Sem.run_bind, run_underlying hP, Result.andThen_ok, hvy, Sem.run_pure]
    · rename_i hr
      rw [hr] at rx
      generalize hvy : ev x = y' at rx
      cases rx with | sl hmu hn hc ha hN =>
      simp only [Rs.ok.injEq] at he
      obtain ⟨rfl, rfl, rfl⟩ := he
      refine fin _ rfl rfl rfl rfl ?_
      simp only [Builtin.cap_, List.getElem?_toArray, List.getElem?_cons_zero, Sem.run_bind, run_underlying hP, Result.andThen_ok, hvy, Sem.run_pure, hc _ rfl]
    · cases he
end Am
namespace Am
open Go
variable {P : Program} {T : TT} {call : CallT} {μ : Mp}

def ChkAt (P : Program) (T : TT) (em : Bool) (D t n : Nat) : Prop :=
  ∀ (w : World) (xs : List Value), xs.length = n → (Instr.checkKey em D t (packG (isG (tUnd T t)) xs)).run P w = .ok () w
theorem flat_chk (hT : TOk P T) (em : Bool) : ∀ (d t : Nat) (ks : List Ck), flat T d t = some ks → ∀ D, d ≤ D → ChkAt P T em D t ks.length := by
  intro d
  induction d with
  | zero => intro t ks h; simp [flat] at h
  | succ d ih =>
    intro t ks h D hD w xs hlx
    obtain ⟨D, rfl⟩ : ∃ e, D = e + 1 := ⟨D - 1, by omega⟩
    unfold flat at h
    have onePart : ∀ (e o : Nat) (kl : List Ck) (ti : TI), flat T d e = some kl → tInfo T e = some ti → ti.sz = kl.length → o + kl.length ≤ xs.length →
        ∃ a, (Go.part e xs.toArray o).run P w = .ok a w ∧ (Instr.checkKey em D e a).run P w = .ok () w := by
      intro e o kl ti hkl hti hsz hle
      have hg := tInfo_g hti
      refine ⟨_, run_part hT hti xs o (by omega) (fun h => by rw [hsz]; exact flat_one hkl (by rw [← hg]; exact h)) w, ?_⟩
      rw [hg]
      exact ih e kl hkl D (by omega) w _ (by simp; omega)
    cases hu : tUnd T t with
    | none => simp [hu] at h
    | some k =>
      have hP := tUnd_ok hT hu
      rw [hu] at h
      cases k <;> simp only [reduceCtorEq] at h
      case bool => unfold Instr.checkKey; simp [run_underlying hP]
      case int j => unfold Instr.checkKey; simp [run_underlying hP]
      case string => unfold Instr.checkKey; simp [run_underlying hP]
      case struct fs =>
        cases hsh : T.sh t with
        | false => rw [hsh] at h; simp at h
        | true =>
          rw [hsh] at h
          simp only [cond_true] at h
          simp only [packG, isG, if_true]
          rw [Instr.checkKey]
          simp only [Sem.run_bind, run_underlying hP, Result.andThen_ok]
          rw [← Array.forIn_toList]
          have key : ∀ (l : List Field) (o : Nat) (ks : List Ck), flatFs (flat T d) T l o = some ks → xs.length = o + ks.length →
              ((forIn l PUnit.unit fun f _ => if f.name ≠ "_" then do Instr.checkKey em D f.type (← Go.part f.type xs.toArray f.offset); pure (ForInStep.yield PUnit.unit) else pure (ForInStep.yield PUnit.unit) : Sem PUnit)).run P w = .ok PUnit.unit w := by
            intro l
            induction l with
            | nil => intro o ks h h1; simp
            | cons f l ihl =>
              intro o ks h h1
              simp only [flatFs] at h
              split at h
              · rename_i kf ti hkf hti
                cases hb : ((f.name != "_") && Nat.beq f.offset o && Nat.beq ti.sz kf.length) with
                | false => rw [hb] at h; simp at h
                | true =>
                  rw [hb] at h
                  simp only [Bool.and_eq_true, bne_iff_ne, ne_eq, Nat.beq_eq] at hb
                  obtain ⟨⟨hn, hoff⟩, hsz⟩ := hb
                  simp only [cond_true] at h
                  split at h
                  · rename_i kr hkr
                    cases h
                    simp only [List.length_append] at h1
                    obtain ⟨a, p1, p2⟩ := onePart f.type o kf ti hkf hti hsz (by omega)
                    simp only [List.forIn_cons, Sem.run_bind, hn, ne_eq, not_false_eq_true, if_true, Result.andThen_ok, hoff, p1, p2, Sem.run_pure]
                    exact ihl (o + kf.length) kr hkr (by omega)
                  · cases h
              · cases h
          rw [key fs.toList 0 ks h (by omega)]
          simp
      case array n e =>
        split at h
        · rename_i kl ti hkl hti
          cases hb : Nat.beq ti.sz kl.length with
          | false => rw [hb] at h; simp at h
          | true =>
            rw [hb] at h
            have hsz : ti.sz = kl.length := by simpa [Nat.beq_eq] using hb
            simp only [cond_true, Option.some.injEq] at h
            subst h
            simp only [packG, isG, if_true]
            rw [Instr.checkKey]
            simp only [Sem.run_bind, run_underlying hP, Result.andThen_ok]
            simp only [Std.Legacy.Range.forIn_eq_forIn_range', Std.Legacy.Range.size, Nat.sub_zero, Nat.add_one_sub_one, Nat.div_one]
            have hx0 : xs.length = n * kl.length := by rw [hlx]; simp
            have each : ∀ j ∈ List.range' 0 n, j < n := by intro j hj; simp at hj; exact hj
            generalize List.range' 0 n = is at each
            induction is with
            | nil => simp
            | cons j is ih2 =>
              have hj := each j (by simp)
              have : (j + 1) * kl.length ≤ n * kl.length := Nat.mul_le_mul_right _ (by omega)
              rw [Nat.succ_mul] at this
              obtain ⟨a, p1, p2⟩ := onePart e (j * kl.length) kl ti hkl hti hsz (by omega)
              simp only [List.forIn_cons, Sem.run_bind, run_sizeOf hT hti, Result.andThen_ok, hsz, p1, p2, Sem.run_pure]
              exact ih2 (fun y hy => each y (by simp [hy]))
        · cases h

/-- a key that is one of its type -/
theorem csEq_len : ∀ {ks : List Ck} {xs ys : List V} {r : Bool}, csEq ks xs ys = some r → xs.length = ks.length ∧ ys.length = ks.length := by
  intro ks
  induction ks with
  | nil => intro xs ys r h; cases xs <;> cases ys <;> simp [csEq] at h ⊢
  | cons k ks ih =>
    intro xs ys r h
    cases xs <;> cases ys <;> simp only [csEq, reduceCtorEq] at h
    rename_i x xs y ys
    split at h
    · split at h
      · rename_i e; have := ih e; simp; omega
      · cases h
    · cases h
theorem key_check (hT : TOk P T) {kt : Nat} {q : Q} (hq : keyQ T kt = some q) {k : V} {k' : Value} (hk : VRel μ k k') {r : Bool} (hr : qeq q k k = some r) (em : Bool) (w : World) :
    (Instr.checkKey em 10000 kt k').run P w = .ok () w := by
  unfold keyQ at hq
  cases hu : tUnd T kt with
  | none => simp [hu] at hq
  | some d =>
    have hP := tUnd_ok hT hu
    rw [hu] at hq
    have agg : ∀ ks, flat T 20 kt = some ks → q = .ag ks → isG (tUnd T kt) = true → (Instr.checkKey em 10000 kt k').run P w = .ok () w := by
      intro ks hks hqq hg
      subst hqq
      cases k <;> simp only [qeq, reduceCtorEq] at hr
      cases hk with | a hk ho =>
      have := flat_chk hT em 20 kt ks hks 10000 (by omega) w _ (by rw [← hk.length]; exact (csEq_len hr).1)
      rw [hg] at this
      simpa [packG] using this
    cases d <;> simp only [reduceCtorEq, Option.some.injEq] at hq
    case bool => rw [show (10000 : Nat) = 9999 + 1 from rfl]; unfold Instr.checkKey; simp [run_underlying hP]
    case int j => rw [show (10000 : Nat) = 9999 + 1 from rfl]; unfold Instr.checkKey; simp [run_underlying hP]
    case string => rw [show (10000 : Nat) = 9999 + 1 from rfl]; unfold Instr.checkKey; simp [run_underlying hP]
    case struct fs =>
      rw [Option.map_eq_some_iff] at hq
      obtain ⟨ks, hk, rfl⟩ := hq
      exact agg ks hk rfl (by rw [hu]; rfl)
    case array n e =>
      rw [Option.map_eq_some_iff] at hq
      obtain ⟨ks, hk, rfl⟩ := hq
      exact agg ks hk rfl (by rw [hu]; rfl)
theorem key_equal (hT : TOk P T) {kt : Nat} {q : Q} (hq : keyQ T kt = some q) {a b : V} {a' b' : Value} (ha : VRel μ a a') (hb : VRel μ b b') {r : Bool} (hr : qeq q a b = some r) (w : World) :
    (Op.equal kt a' b').run P w = .ok r w := by
  unfold keyQ at hq
  cases hu : tUnd T kt with
  | none => simp [hu] at hq
  | some d =>
    have hP := tUnd_ok hT hu
    rw [hu] at hq
    have agg : ∀ ks, flat T 20 kt = some ks → q = .ag ks → isG (tUnd T kt) = true → (Op.equal kt a' b').run P w = .ok r w := by
      intro ks hks hqq hg
      subst hqq
      cases a <;> simp only [qeq, reduceCtorEq] at hr
      cases b <;> simp only [reduceCtorEq] at hr
      cases ha with | a ha oa =>
      cases hb with | a hb ob =>
      exact run_equal_flat hT hks ha hb oa ob hr hg w
    cases d <;> simp only [reduceCtorEq, Option.some.injEq] at hq
    case bool => subst hq; exact ceq_ok hT (k := .b) (by cases a <;> simpa [qeq] using hr) ha hb (t := kt) (d := 9999) hu w
    case int j => subst hq; exact ceq_ok hT (k := .i) (by cases a <;> simpa [qeq] using hr) ha hb (t := kt) (d := 9999) ⟨j, hu⟩ w
    case string => subst hq; exact ceq_ok hT (k := .s) (by cases a <;> simpa [qeq] using hr) ha hb (t := kt) (d := 9999) hu w
    case struct fs =>
      rw [Option.map_eq_some_iff] at hq
      obtain ⟨ks, hk, rfl⟩ := hq
      exact agg ks hk rfl (by rw [hu]; rfl)
    case array n e =>
      rw [Option.map_eq_some_iff] at hq
      obtain ⟨ks, hk, rfl⟩ := hq
      exact agg ks hk rfl (by rw [hu]; rfl)
theorem ceq_bits {k : Ck} {x y : V} {x' y' : Value} (hx : VRel μ x x') (hy : VRel μ y y') (h : ceq k x y = some true) (n : Nat) : Instr.sameBits n x' y' = true := by
  cases k with
  | b =>
    cases x <;> simp [ceq] at h
    cases y <;> simp at h
    cases hx; cases hy
    rename_i a b
    cases a <;> cases b <;> simp [beqB] at h <;> cases n <;> simp [Instr.sameBits]
  | i =>
    cases x <;> simp [ceq] at h
    cases y <;> simp at h
    cases hx; cases hy
    rename_i k a k' b
    rw [keq_eq] at h
    by_cases e : k = k'
    · subst e
      simp [ieq_eq] at h
      subst h
      cases n <;> simp [Instr.sameBits]
    · simp [e] at h
  | s =>
    cases x <;> simp [ceq] at h
    cases y <;> simp at h
    cases hx with | s l a ha =>
    cases hy with | s l' b hb =>
    rw [← ha, ← hb, seq_eq] at h
    have : a = b := by
      have h' : a.data.toList = b.data.toList := by simpa using h
      cases a; cases b
      simp at h'
      simp [h']
    subst this
    have he : (a == a) = true := by show (a.data == a.data) = true; simp
    cases n <;> simpa [Instr.sameBits] using he
theorem key_bits {q : Q} {kt : Nat} (hq : keyQ T kt = some q) {x y : V} {x' y' : Value} (hx : VRel μ x x') (hy : VRel μ y y') (h : qeq q x y = some true) : Instr.sameBits 10000 x' y' = true := by
  have sc : ∀ k, ceq k x y = some true → Instr.sameBits 10000 x' y' = true := fun k h => ceq_bits hx hy h _
  have agg : ∀ ks, q = .ag ks → Instr.sameBits 10000 x' y' = true := by
    intro ks hqq
    subst hqq
    cases x <;> simp only [qeq, reduceCtorEq] at h
    cases y <;> simp only [reduceCtorEq] at h
    rename_i xs ys
    cases hx with | a hx ox =>
    cases hy with | a hy oy =>
    rename_i xs' ys'
    have hl : xs'.toList.length = ys'.toList.length := by rw [← hx.length, ← hy.length, (csEq_len h).1, (csEq_len h).2]
    have key : ∀ (ks : List Ck) (xs ys : List V) (xs' ys' : List Value), VRs μ xs xs' → VRs μ ys ys' → csEq ks xs ys = some true → ((xs'.zip ys').all fun (x, y) => Instr.sameBits 9999 x y) = true := by
      intro ks
      induction ks with
      | nil => intro xs ys xs' ys' h1 h2 h3; cases xs <;> cases ys <;> simp [csEq] at h3; cases h1; simp
      | cons k ks ih =>
        intro xs ys xs' ys' h1 h2 h3
        cases xs <;> cases ys <;> simp only [csEq, reduceCtorEq] at h3
        cases h1 with | cons h1 h1' =>
        cases h2 with | cons h2 h2' =>
        split at h3
        · rename_i r hr
          split at h3
          · rename_i r' hr'
            simp at h3
            obtain ⟨rfl, rfl⟩ := h3
            simp only [List.zip_cons_cons, List.all_cons, Bool.and_eq_true]
            exact ⟨ceq_bits h1 h2 hr _, ih _ _ _ _ h1' h2' hr'⟩
          · cases h3
        · cases h3
    rw [show (10000 : Nat) = 9999 + 1 from rfl]
    simp only [Instr.sameBits, Bool.and_eq_true, beq_iff_eq]
    exact ⟨by simpa using hl, key ks xs ys _ _ hx hy h⟩
  unfold keyQ at hq
  cases hu : tUnd T kt with
  | none => simp [hu] at hq
  | some d =>
    rw [hu] at hq
    cases d <;> simp only [reduceCtorEq, Option.some.injEq] at hq
    case bool => subst hq; exact sc .b (by cases x <;> simpa [qeq] using h)
    case int j => subst hq; exact sc .i (by cases x <;> simpa [qeq] using h)
    case string => subst hq; exact sc .s (by cases x <;> simpa [qeq] using h)
    case struct fs =>
      rw [Option.map_eq_some_iff] at hq
      obtain ⟨ks, hk, rfl⟩ := hq
      exact agg ks rfl
    case array n e =>
      rw [Option.map_eq_some_iff] at hq
      obtain ⟨ks, hk, rfl⟩ := hq
      exact agg ks rfl
theorem ceq_symm {k : Ck} {x y : V} (h : ceq k x y = some true) : ceq k y x = some true := by
  cases k with
  | i =>
    cases x <;> simp [ceq] at h
    cases y <;> simp at h
    rename_i k a k' b
    rw [keq_eq] at h
    by_cases e : k = k'
    · subst e
      simp [ieq_eq] at h
      subst h
      simp [ceq, keq_eq, ieq_eq]
    · simp [e] at h
  | b =>
    cases x <;> simp [ceq] at h
    cases y <;> simp at h
    rename_i a b
    cases a <;> cases b <;> simp [beqB] at h <;> rfl
  | s =>
    cases x <;> simp [ceq] at h
    cases y <;> simp at h
    rename_i a b
    rw [seq_self] at h
    have : a = b := by simpa using h
    subst this
    simp [ceq, seq_self]
theorem csEq_symm : ∀ {ks : List Ck} {xs ys : List V}, csEq ks xs ys = some true → csEq ks ys xs = some true := by
  intro ks
  induction ks with
  | nil => intro xs ys h; cases xs <;> cases ys <;> simp [csEq] at h ⊢
  | cons k ks ih =>
    intro xs ys h
    cases xs <;> cases ys <;> simp only [csEq, reduceCtorEq] at h
    split at h
    · rename_i r hr
      split at h
      · rename_i r' hr'
        simp at h
        obtain ⟨rfl, rfl⟩ := h
        simp [csEq, ceq_symm hr, ih hr']
      · cases h
    · cases h
theorem key_symm {q : Q} {kt : Nat} (hq : keyQ T kt = some q) {x y : V} (h : qeq q x y = some true) : qeq q y x = some true := by
  unfold keyQ at hq
  cases hu : tUnd T kt with
  | none => simp [hu] at hq
  | some d =>
    rw [hu] at hq
    cases d <;> simp only [reduceCtorEq, Option.some.injEq] at hq
    case bool =>
      subst hq
      have h' : ceq .b x y = some true := by cases x <;> simpa [qeq] using h
      have := ceq_symm h'
      cases y <;> simpa [qeq] using this
    case int j =>
      subst hq
      have h' : ceq .i x y = some true := by cases x <;> simpa [qeq] using h
      have := ceq_symm h'
      cases y <;> simpa [qeq] using this
    case string =>
      subst hq
      have h' : ceq .s x y = some true := by cases x <;> simpa [qeq] using h
      have := ceq_symm h'
      cases y <;> simpa [qeq] using this
    all_goals
      rw [Option.map_eq_some_iff] at hq
      obtain ⟨ks, hk, rfl⟩ := hq
      cases x <;> simp only [qeq, reduceCtorEq] at h
      cases y <;> simp only [reduceCtorEq] at h
      exact csEq_symm h
theorem sameNow_ok {kt : Nat} {d : TypeDesc} (hP : P.underlying kt = some d) {x y : Value} {r : Bool} (h : Instr.sameNow d x y = some r) (w : World) : (Op.equal kt x y).run P w = .ok r w := by
  cases d <;> cases x <;> simp only [Instr.sameNow, reduceCtorEq] at h <;> cases y <;> simp only [reduceCtorEq] at h
  · cases h
    exact run_equalIn_bool' w 9999 kt _ _ hP
  · split at h
    · rename_i e
      cases h
      subst e
      exact run_equalIn_int w 9999 kt _ _ _ _ hP
    · cases h
  · rename_i a b
    cases h
    have := run_equalIn_string w 9999 kt a b hP
    rw [← beq_toListBytes] at this
    exact this
theorem findKey_asking {kt : Nat} {d : TypeDesc} (hP : P.underlying kt = some d) (x : Value) (E : List MapEntry) (w : World) {r : Option (Nat × Value)} (h : (Instr.findAsking kt x E).run P w = .ok r w) :
    (Instr.findKey kt x E).run P w = .ok r w := by
  have key : ∀ (E : List MapEntry) (i : Nat) (r' : Option (Nat × Value)), Instr.findNow d x E i = some r' → (Instr.findAsking kt x E i).run P w = .ok r' w := by
    intro E
    induction E with
    | nil => intro i r' h; simp [Instr.findNow] at h; subst h; simp [Instr.findAsking]
    | cons e E ih =>
      intro i r' h
      simp only [Instr.findNow] at h
      split at h
      · rename_i hs
        cases h
        simp [Instr.findAsking, sameNow_ok hP hs]
      · rename_i hs
        simp only [Instr.findAsking, Sem.run_bind, sameNow_ok hP hs, Result.andThen_ok, Bool.false_eq_true, if_false]
        exact ih _ _ h
      · cases h
  simp only [Instr.findKey, Sem.run_bind, run_underlying hP, Result.andThen_ok]
  cases hn : Instr.findNow d x E 0 with
  | none => simpa using h
  | some r' =>
    have := key E 0 r' hn
    rw [h] at this
    cases this
    simp
/-- the entry of a key -/
theorem find_ok (hT : TOk P T) {kt : Nat} {q : Q} (hq : keyQ T kt = some q) {k : V} {k' : Value} (hk : VRel μ k k') (w : World) :
    ∀ {es : List (V × V)} {E : List MapEntry} {res : Option V}, VPs μ es E → mfind q k es = some res →
      (res = none ∧ (∀ i, (Instr.findAsking kt k' E i).run P w = .ok none w) ∧ (∀ v v' n, VRel μ v v' → VPs μ (mput q k v es) (E ++ [⟨k', v', n⟩])) ∧ mdrop q k es = es) ∨
      ∃ v j e, res = some v ∧ (∀ i, (Instr.findAsking kt k' E i).run P w = .ok (some (i + j, e.val)) w) ∧ E[j]? = some e ∧ VRel μ v e.val ∧ Instr.sameBits 10000 e.key k' = true ∧
        (∀ v v', VRel μ v v' → VPs μ (mput q k v es) (E.modify j fun e => { e with key := k', val := v' })) ∧ VPs μ (mdrop q k es) (E.eraseIdx j) := by
  intro es E res hV
  induction hV with
  | nil =>
    intro h
    simp [mfind] at h
    subst h
    refine .inl ⟨rfl, fun i => by simp [Instr.findAsking], fun v v' n hv => ?_, rfl⟩
    simp only [mput, List.nil_append]
    exact .cons hk hv .nil
  | cons hkk hvv hV' ih =>
    rename_i a x e es E
    intro h
    simp only [mfind] at h
    split at h
    · rename_i hqe
      simp at h
      subst h
      refine .inr ⟨_, 0, e, rfl, fun i => ?_, rfl, hvv, key_bits hq hkk hk (key_symm hq hqe), fun v v' hv => ?_, ?_⟩
      · simp [Instr.findAsking, key_equal hT hq hk hkk hqe]
      · simp only [mput, hqe, List.modify_zero_cons]
        exact .cons hk hv hV'
      · simp only [mdrop, hqe, List.eraseIdx_cons_zero]
        exact hV'
    · rename_i hqe
      have hask : ∀ i, (Instr.findAsking kt k' (e :: E) i).run P w = (Instr.findAsking kt k' E (i + 1)).run P w := fun i => by
        simp [Instr.findAsking, key_equal hT hq hk hkk hqe]
      rcases ih h with ⟨h1, h2, h3, h4⟩ | ⟨v, j, e', h1, h2, h3, h4, h5, h6, h7⟩
      · refine .inl ⟨h1, fun i => by rw [hask, h2], fun v v' n hv => ?_, ?_⟩
        · simp only [mput, hqe, List.cons_append]
          exact .cons hkk hvv (h3 v v' n hv)
        · simp only [mdrop, hqe, h4]
      · refine .inr ⟨v, j + 1, e', h1, fun i => by rw [hask, h2, show i + 1 + j = i + (j + 1) by omega], by simpa using h3, h4, h5, fun v v' hv => ?_, ?_⟩
        · simp only [mput, hqe, List.modify_succ_cons]
          exact .cons hkk hvv (h6 v v' hv)
        · simp only [mdrop, hqe, List.eraseIdx_cons_succ]
          exact .cons hkk hvv h7
    · cases h
end Am
namespace Am
open Go
variable {P : Program} {T : TT} {call : CallT} {μ : Mp}
theorem isKey_ok {q : Q} {k : V} (h : (!isKey q k) = false) : ∃ r, qeq q k k = some r := by
  unfold isKey at h
  cases hq : qeq q k k with
  | none => rw [hq] at h; cases h
  | some r => exact ⟨r, rfl⟩
theorem getMap {h : H} {w : World} (hH : HRel μ h w) {r c β N : Nat} {es : List (V × V)} (hmu : μ r = some (c, β, N)) (hg : h.get r = some (.map es)) : ∃ E k, w.heap[c]? = some (.map E k) ∧ VPs μ es E.toList := by
  obtain ⟨c', β', N', hm, E, k, hE, hV⟩ := hH.blk _ _ hg
  rw [hmu] at hm
  cases hm
  exact ⟨E, k, hE, hV⟩
def setB (w : World) (b : Nat) (o : Obj) : World := { w with heap := w.heap.setIfInBounds b o }
theorem run_setMap {w : World} {r : Nat} {es : Array MapEntry} {clock : Nat} (o : Obj) (hb : w.heap[r]? = some (.map es clock)) : (setObj r o).run P w = .ok () (setB w r o) := by
  simp [setObj, Sem.run, hb, setB]
theorem setB_only (w : World) (b : Nat) (o : Obj) : Only w (setB w b o) b :=
  ⟨fun d hd => by simp [setB, Ne.symm hd], by simp [setB], rfl, rfl, rfl⟩
theorem setB_self {w : World} {b : Nat} {o o' : Obj} (h : w.heap[b]? = some o') : (setB w b o).heap[b]? = some o := by
  have := (Array.getElem?_eq_some_iff.1 h).1
  simp [setB, this]

theorem ok_lookup (d : Option Nat) (t : Nat) (x k : Operand) (ok : Bool) (ty : Nat) (pos : String) (af : Array Edge) (g : Option (Nat × Bool)) : OpOK P T call ⟨d, .lookup t x k ok, ty, pos, af, g⟩ := by
  intro kd c μ κ vs ts ls h w w₀ ev v ls' h' hx he
  simp only [compO] at he ⊢
  cases ht : tUnd T t with
  | none => simp [ht, evO, e_no] at he
  | some dt =>
  rw [ht] at he
  cases dt <;> try (simp [evO, e_no] at he; done)
  rename_i kt e
  have hP := tUnd_ok hx.T ht
  simp only at he ⊢
  cases hq : keyQ T kt with
  | none => simp [hq, evO, e_no] at he
  | some q =>
  cases hi : tInfo T e with
  | none => simp [hq, hi, evO, e_no] at he
  | some te =>
  cases hX : opd kd c x with
  | none => simp [hq, hi, hX, evO, e_no] at he
  | some X =>
  cases hK : opd kd c k with
  | none => simp [hq, hi, hX, hK, evO, e_no] at he
  | some K =>
  simp only [hq, hi, hX, hK, evO, e_look] at he ⊢
  have rx := hx.O.v _ _ (by simp [Op.operands]) hX
  have rk := hx.O.v _ _ (by simp [Op.operands]) hK
  cases hik : (!isKey q (getX vs ts K)) with
  | true => rw [hik] at he; simp at he
  | false =>
  rw [hik] at he
  simp only [cond_false] at he
  obtain ⟨r0, hr0⟩ := isKey_ok hik
  have hck := fun em => key_check (P := P) hx.T hq rk hr0 em w
  have hkt : ∃ dk, P.underlying kt = some dk := by
    unfold keyQ at hq
    cases hu : tUnd T kt with
    | none => simp [hu] at hq
    | some dk => exact ⟨dk, tUnd_ok hx.T hu⟩
  obtain ⟨dk, hPk⟩ := hkt
  obtain ⟨z, hz, hzv, _⟩ := run_zeroValue (P := P) hx.T hi w
  have miss : ∀ (E : Array MapEntry), (∀ _em : Bool, (Instr.findKey kt (ev k) E.toList).run P w = .ok none w) → (ev x = .map none ∧ E = #[] ∨ ∃ c n, ev x = .map (some c) ∧ w.heap[c]? = some (.map E n)) →
      v = (bif ok then .t [te.zero, .b false] else te.zero) → ls' = ls → h' = h → Does P ⟨d, .lookup t x k ok, ty, pos, af, g⟩ ev w (Res μ κ h w w₀ (.look q X K ok te.zero) none v ls' h') := by
    intro E hf hes hv h1 h2
    subst hv h1 h2
    have hy : ∃ y, VRel μ (bif ok then .t [te.zero, .b false] else te.zero) y ∧ (Instr.lookup t (ev x) (ev k) ok).run P w = .ok y w := by
      cases ok with
      | true =>
        refine ⟨.tuple #[z, .bool false], .t (.cons (hzv μ) (.cons (.b _) .nil)), ?_⟩
        rcases hes with ⟨h1, rfl⟩ | ⟨c, n, h1, h2⟩
        · have := hf true
          simp at this
          simp [Instr.lookup, run_underlying hP, h1, hck, this, hz]
        · simp [Instr.lookup, run_underlying hP, h1, getObj_run h2, hck, hf true, hz]
      | false =>
        refine ⟨z, hzv μ, ?_⟩
        rcases hes with ⟨h1, rfl⟩ | ⟨c, n, h1, h2⟩
        · have := hf true
          simp at this
          simp [Instr.lookup, run_underlying hP, h1, hck, this, hz]
        · simp [Instr.lookup, run_underlying hP, h1, getObj_run h2, hck, hf true, hz]
    obtain ⟨y, hy1, hy2⟩ := hy
    exact Does.pure hx hy1 rfl (by simp [execOp, hy2])
  split at he
  · rename_i hr
    rw [hr] at rx
    generalize hvy : ev x = y' at rx
    cases rx
    simp only [Rs.ok.injEq] at he
    obtain ⟨rfl, rfl, rfl⟩ := he
    exact miss #[] (fun _ => findKey_asking hPk _ _ _ (by simp [Instr.findAsking])) (.inl ⟨hvy, rfl⟩) rfl rfl rfl
  · rename_i r hr
    rw [hr] at rx
    generalize hvy : ev x = y' at rx
    cases rx with | m hmu =>
    split at he
    · rename_i es hes
      obtain ⟨E, n, hE, hV⟩ := getMap hx.H hmu hes
      split at he
      · rename_i hmf
        simp only [Rs.ok.injEq] at he
        obtain ⟨rfl, rfl, rfl⟩ := he
        rcases find_ok hx.T hq rk w hV hmf with ⟨_, h2, _⟩ | ⟨_, _, _, h1, _⟩
        · exact miss E (fun _ => findKey_asking hPk _ _ _ (h2 0)) (.inr ⟨_, n, hvy, hE⟩) rfl rfl rfl
        · cases h1
      · rename_i v0 hmf
        simp only [Rs.ok.injEq] at he
        obtain ⟨rfl, rfl, rfl⟩ := he
        rcases find_ok hx.T hq rk w hV hmf with ⟨h1, _⟩ | ⟨v1, j, e', h1, h2, h3, h4, _⟩
        · cases h1
        · cases h1
          have hf := findKey_asking hPk _ _ _ (h2 0)
          cases ok with
          | true =>
            refine Does.pure hx (y := .tuple #[e'.val, .bool true]) (.t (.cons h4 (.cons (.b _) .nil))) rfl ?_
            simp [execOp, Instr.lookup, run_underlying hP, hvy, getObj_run hE, hck, hf]
          | false =>
            refine Does.pure hx (y := e'.val) h4 rfl ?_
            simp [execOp, Instr.lookup, run_underlying hP, hvy, getObj_run hE, hck, hf]
      · cases he
    · cases he
  · cases he
theorem Does.setMap {kd : List Kd} {c : Ctx} {κ : Lm} {vs ts : List V} {ls : Ls} {h : H} {w : World} {w₀ : Nat} {ev : Operand → Value} {xs : Operand → Prop} {o : Oper} {op : O} (hx : Cx P T kd c μ κ vs ts ls h w w₀ ev xs)
    {r cc β N n n' : Nat} {es es' : List (V × V)} {E E' : Array MapEntry} (hmu : μ r = some (cc, β, N)) (hg : h.get r = some (.map es)) (hE : w.heap[cc]? = some (.map E n)) (hV : VPs μ es' E'.toList) (hb : boxed op = none) {y : Value} (hy : VRel μ undef y)
    (hr : (execOp ev o).run P w = .ok (.value y) (setB w cc (.map E' n')) ∨ ((execOp ev o).run P w = .ok .skip (setB w cc (.map E' n')) ∧ y = Go.undef)) :
    Does P o ev w (Res μ κ h w w₀ op none undef ls (h.set r (some (.map es')))) :=
  Does.heap hx (hx.H.put hg hmu (setB_only w cc _) (x' := .map es') ⟨E', n', setB_self hE, hV⟩) (Fr.put hg hmu (setB_only w cc _)) hy hb hr

theorem ok_mapUpdate (d : Option Nat) (t : Nat) (x k z : Operand) (ty : Nat) (pos : String) (af : Array Edge) (g : Option (Nat × Bool)) : OpOK P T call ⟨d, .mapUpdate t x k z, ty, pos, af, g⟩ := by
  intro kd c μ κ vs ts ls h w w₀ ev v ls' h' hx he
  simp only [compO] at he ⊢
  cases ht : tUnd T t with
  | none => simp [ht, evO, e_no] at he
  | some dt =>
  rw [ht] at he
  cases dt <;> try (simp [evO, e_no] at he; done)
  rename_i kt e
  have hP := tUnd_ok hx.T ht
  simp only at he ⊢
  cases hq : keyQ T kt with
  | none => simp [hq, evO, e_no] at he
  | some q =>
  cases hX : opd kd c x with
  | none => simp [hq, hX, evO, e_no] at he
  | some X =>
  cases hK : opd kd c k with
  | none => simp [hq, hX, hK, evO, e_no] at he
  | some K =>
  cases hZ : opd kd c z with
  | none => simp [hq, hX, hK, hZ, evO, e_no] at he
  | some Z =>
  simp only [hq, hX, hK, hZ, evO, e_mup] at he ⊢
  have rx := hx.O.v _ _ (by simp [Op.operands]) hX
  have rk := hx.O.v _ _ (by simp [Op.operands]) hK
  have rz := hx.O.v _ _ (by simp [Op.operands]) hZ
  cases hik : (!isKey q (getX vs ts K)) with
  | true => rw [hik] at he; simp at he
  | false =>
  rw [hik] at he
  simp only [cond_false] at he
  obtain ⟨r0, hr0⟩ := isKey_ok hik
  have hck := fun em => key_check (P := P) hx.T hq rk hr0 em w
  have hkt : ∃ dk, P.underlying kt = some dk := by
    unfold keyQ at hq
    cases hu : tUnd T kt with
    | none => simp [hu] at hq
    | some dk => exact ⟨dk, tUnd_ok hx.T hu⟩
  obtain ⟨dk, hPk⟩ := hkt
  split at he
  · rename_i r hr
    rw [hr] at rx
    generalize hvy : ev x = y' at rx
    cases rx with | m hmu =>
    split at he
    · rename_i es hes
      obtain ⟨E, n, hE, hV⟩ := getMap hx.H hmu hes
      split at he
      · rename_i res hmf
        simp only [Rs.ok.injEq] at he
        obtain ⟨rfl, rfl, rfl⟩ := he
        rcases find_ok hx.T hq rk w hV hmf with ⟨_, h2, h3, _⟩ | ⟨v1, j, e', _, h2, h3, _, h5, h6, _⟩
        · have hf := findKey_asking hPk _ _ _ (h2 0)
          refine Does.setMap hx hmu hes hE (n' := n + 1) (E' := E.push { key := ev k, val := ev z, born := n }) (by simpa using h3 _ _ n rz) rfl (VRel.undef μ) (.inr ⟨?_, rfl⟩)
          simp [execOp, Instr.mapUpdate, run_underlying hP, hvy, getObj_run hE, hck, hf, run_setMap _ hE]
        · have hf := findKey_asking hPk _ _ _ (h2 0)
          simp only [Nat.zero_add] at hf
          have hkk : (Instr.keyThatStays (((E[j]?).map (·.key)).getD (ev k)) (ev k)).run P w = .ok (ev k) w := by
            have : E[j]? = some e' := by simpa using h3
            simp [Instr.keyThatStays, this, h5]
          refine Does.setMap hx hmu hes hE (n' := n) (E' := E.modify j fun e => { e with key := ev k, val := ev z }) (by simpa using h6 _ _ rz) rfl (VRel.undef μ) (.inr ⟨?_, rfl⟩)
          simp only [execOp, Instr.mapUpdate, Sem.run_bind, run_underlying hP, hvy, getObj_run hE, hck, hf, hkk, run_setMap _ hE, Result.andThen_ok, Sem.run_pure]
      · cases he
    · cases he
  · cases he

theorem ok_makeMap (d : Option Nat) (t : Nat) (r : Option Operand) (ty : Nat) (pos : String) (af : Array Edge) (g : Option (Nat × Bool)) : OpOK P T call ⟨d, .makeMap t r, ty, pos, af, g⟩ := by
  intro kd c μ κ vs ts ls h w w₀ ev v ls' h' hx he
  simp only [compO] at he ⊢
  cases ht : tUnd T t with
  | none => simp [ht, evO, e_no] at he
  | some dt =>
  rw [ht] at he
  cases dt <;> try (simp [evO, e_no] at he; done)
  rename_i kt e
  have hP := tUnd_ok hx.T ht
  have fin : evO call vs ts ls h .mkm = .ok v ls' h' → (Instr.makeMap t (r.map ev)).run P w = .ok (.map (some w.heap.size)) (w.alloc (.map #[] 0)) → Does P ⟨d, .makeMap t r, ty, pos, af, g⟩ ev w (Res μ κ h w w₀ .mkm none v ls' h') := by
    intro he hr
    simp only [evO, e_mkm, Rs.ok.injEq] at he
    obtain ⟨rfl, rfl, rfl⟩ := he
    have gr := Grew.alloc w (.map #[] 0)
    refine Does.heap hx (hx.H.new gr (.map []) 0 ⟨#[], 0, gr.new, .nil⟩) (Fr.new hx.H gr _ _) (.m (upd_self _ _)) rfl (.inl ?_)
    simp [execOp, hr]
  cases r with
  | none =>
    simp only at he ⊢
    exact fin he (by simp [Instr.makeMap, run_newObj])
  | some x =>
    cases x with
    | const cv =>
      cases cv <;> try (simp [evO, e_no] at he; done)
      rename_i k n
      simp only at he ⊢
      have rx := hx.O.v (.const (.int k n)) (.c (.i k n)) (by simp [Op.operands]) (by simp [opd, ofVal])
      simp only [getX] at rx
      generalize hvy : ev (.const (.int k n)) = y' at rx
      cases rx
      exact fin he (by simp [Instr.makeMap, run_underlying hP, run_newObj, hvy, asInt, run_asIntOf])
    | _ => simp [evO, e_no] at he
theorem ok_delete (d : Option Nat) (args : Array Operand) (at_ : Array TypeId) (ty : Nat) (pos : String) (af : Array Edge) (g : Option (Nat × Bool)) : OpOK P T call ⟨d, .call ⟨.builtin .delete, args, at_⟩, ty, pos, af, g⟩ := by
  intro kd c μ κ vs ts ls h w w₀ ev v ls' h' hx he
  obtain ⟨args⟩ := args
  obtain ⟨at_⟩ := at_
  rcases args with _ | ⟨x, _ | ⟨k, _ | ⟨z, r⟩⟩⟩ <;> rcases at_ with _ | ⟨t, _ | ⟨u, _ | ⟨q, r'⟩⟩⟩ <;> try (simp [compO, callO, evO, e_no] at he; done)
  simp only [compO, callO] at he ⊢
  cases ht : tUnd T t with
  | none => simp [ht, evO, e_no] at he
  | some dt =>
  rw [ht] at he
  cases dt <;> try (simp [evO, e_no] at he; done)
  rename_i kt e
  have hP := tUnd_ok hx.T ht
  simp only at he ⊢
  cases hq : keyQ T kt with
  | none => simp [hq, evO, e_no] at he
  | some q =>
  cases hX : opd kd c x with
  | none => simp [hq, hX, evO, e_no] at he
  | some X =>
  cases hK : opd kd c k with
  | none => simp [hq, hX, hK, evO, e_no] at he
  | some K =>
  simp only [hq, hX, hK, evO, e_mdel] at he ⊢
  have rx := hx.O.v _ _ (by simp [Op.operands, Call.operands]) hX
  have rk := hx.O.v _ _ (by simp [Op.operands, Call.operands]) hK
  cases hik : (!isKey q (getX vs ts K)) with
  | true => rw [hik] at he; simp at he
  | false =>
  rw [hik] at he
  simp only [cond_false] at he
  obtain ⟨r0, hr0⟩ := isKey_ok hik
  have hck := fun em => key_check (P := P) hx.T hq rk hr0 em w
  have hkt : ∃ dk, P.underlying kt = some dk := by
    unfold keyQ at hq
    cases hu : tUnd T kt with
    | none => simp [hu] at hq
    | some dk => exact ⟨dk, tUnd_ok hx.T hu⟩
  obtain ⟨dk, hPk⟩ := hkt
  have hb : ∀ {w' : World}, (Builtin.delete_ #[t, u] ty #[ev x, ev k]).run P w = .ok (.tuple #[]) w' → (execOp ev ⟨d, .call ⟨.builtin .delete, ⟨[x, k]⟩, ⟨[t, u]⟩⟩, ty, pos, af, g⟩).run P w = .ok (.value (.tuple #[])) w' :=
    fun h => run_builtin (s := Builtin.delete_ #[t, u] ty #[ev x, ev k]) (fun consts => by simp [builtin]) h
  split at he
  · rename_i hr
    rw [hr] at rx
    generalize hvy : ev x = y' at rx
    cases rx
    simp only [Rs.ok.injEq] at he
    obtain ⟨rfl, rfl, rfl⟩ := he
    exact Does.pure hx (y := .tuple #[]) (.t .nil) rfl (hb (by simp [Builtin.delete_, run_underlying hP, hvy, hck]))
  · rename_i r hr
    rw [hr] at rx
    generalize hvy : ev x = y' at rx
    cases rx with | m hmu =>
    split at he
    · rename_i es hes
      obtain ⟨E, n, hE, hV⟩ := getMap hx.H hmu hes
      split at he
      · rename_i res hmf
        simp only [Rs.ok.injEq] at he
        obtain ⟨rfl, rfl, rfl⟩ := he
        rcases find_ok hx.T hq rk w hV hmf with ⟨_, h2, _, h4⟩ | ⟨v1, j, e', _, h2, h3, _, _, _, h7⟩
        · have hf := findKey_asking hPk _ _ _ (h2 0)
          rw [h4]
          refine Does.setMap hx hmu hes hE (n' := n) (E' := E) (y := .tuple #[]) hV rfl (.t .nil) (.inl (hb ?_))
          simp [Builtin.delete_, run_underlying hP, hvy, getObj_run hE, hck, hf, run_setMap _ hE]
        · have hf := findKey_asking hPk _ _ _ (h2 0)
          simp only [Nat.zero_add] at hf
          have hj : j < E.size := by have := (List.getElem?_eq_some_iff.1 h3).1; simpa using this
          refine Does.setMap hx hmu hes hE (n' := n) (E' := E.eraseIdxIfInBounds j) (y := .tuple #[]) (by unfold Array.eraseIdxIfInBounds; rw [dif_pos hj]; simpa using h7) rfl (.t .nil) (.inl (hb ?_))
          simp [Builtin.delete_, run_underlying hP, hvy, getObj_run hE, hck, hf, run_setMap _ hE]
      · cases he
    · cases he
  · cases he
end Am
namespace Am
open Go
variable {P : Program} {T : TT} {call : CallT} {μ : Mp}
theorem getXs_eq (vs ts : List V) (l : List X) : getXs vs ts l = l.map (getX vs ts) := by
  induction l with
  | nil => rfl
  | cons a l ih => simp [getXs, ih]
theorem minMax_ok (mx : Bool) (w : World) : ∀ {r : List V} {x v : V} {r' : List Value} {x' : Value}, VRel μ x x' → VRs μ r r' → r ≠ [] → minMax mx x r = some v →
    ∃ y, ((r'.foldlM (if mx then Builtin.max2 else Builtin.min2) x').run P w = .ok y w) ∧ VRel μ v y := by
  have go : ∀ {r : List V} {k : IntKind} {a : Int} {v : V} {r' : List Value}, VRs μ r r' → minMax mx (.i k a) r = some v →
    ∃ y, ((r'.foldlM (if mx then Builtin.max2 else Builtin.min2) (.int k a)).run P w = .ok y w) ∧ VRel μ v y := by
    intro r
    induction r with
    | nil =>
      intro k a v r' hr e
      cases hr
      simp [minMax] at e
      subst e
      exact ⟨_, by simp, .i _ _⟩
    | cons b r ih =>
      intro k a v r' hr e
      cases hr with | cons hb hr =>
      cases b <;> simp only [minMax, reduceCtorEq] at e
      rename_i k' b
      cases hb
      rw [keq_eq] at e
      by_cases hk : k = k'
      · subst hk
        simp only [decide_true, cond_true] at e
        obtain ⟨y, h1, h2⟩ := ih hr e
        refine ⟨y, ?_, h2⟩
        rw [List.foldlM_cons, Sem.run_bind]
        have : ((if mx then Builtin.max2 else Builtin.min2) (.int k a) (.int k b)).run P w = .ok (.int k (bif (bif mx then ilt a b else ilt b a) then b else a)) w := by
          cases mx
          · simp only [Bool.false_eq_true, if_false, Builtin.min2, Sem.run_pure, cond_false, ilt_eq]
            by_cases h : b < a <;> simp [h]
          · simp only [if_true, Builtin.max2, Sem.run_pure, cond_true, ilt_eq]
            by_cases h : a < b <;> simp [h]
        rw [this]
        exact h1
      · simp [hk] at e
  intro r x v r' x' hx hr hne e
  match r, hne with
  | b :: r, _ =>
    cases x with
    | i k a => cases hx; exact go hr e
    | _ => cases b <;> simp [minMax] at e
theorem ok_mnx (mx : Bool) (d : Option Nat) (args : Array Operand) (at_ : Array TypeId) (ty : Nat) (pos : String) (af : Array Edge) (g : Option (Nat × Bool)) : OpOK P T call ⟨d, .call ⟨.builtin (if mx then .max else .min), args, at_⟩, ty, pos, af, g⟩ := by
  intro kd c μ κ vs ts ls h w w₀ ev v ls' h' hx he
  have hc : (compO T kd c ⟨d, .call ⟨.builtin (if mx then .max else .min), args, at_⟩, ty, pos, af, g⟩) = ((match opds kd c args.toList with | some l => .mnx mx l | none => .no), none) := by
    cases mx <;> simp [compO, callO] <;> rfl
  rw [hc] at he ⊢
  simp only at he ⊢
  cases hl : opds kd c args.toList with
  | none => simp [hl, evO, e_no] at he
  | some l =>
  simp only [hl, evO, e_mnx] at he ⊢
  have rl := opds_ok hx.O args.toList l (fun x hm => by simpa [Op.operands, Call.operands] using hm) hl
  split at he
  · rename_i x r hxr
    rw [hxr] at rl
    obtain ⟨e1, rfl, rfl⟩ := Rs.of_ok he
    cases ha : args.toList.map ev with
    | nil => rw [ha] at rl; cases rl
    | cons x' r' =>
      rw [ha] at rl
      cases rl with | cons h1 h2 =>
      have hfold : ∃ y, ((r'.foldlM (if mx then Builtin.max2 else Builtin.min2) x').run P w = .ok y w) ∧ VRel μ v y := by
        cases r with
        | nil =>
          cases h2
          simp [minMax] at e1
          subst e1
          exact ⟨x', by simp, h1⟩
        | cons b r => exact minMax_ok mx w h1 h2 (by simp) e1
      obtain ⟨y, hy1, hy2⟩ := hfold
      have hargs : (args.map ev).toList = x' :: r' := by simpa using ha
      refine Does.pure hx hy2 rfl ?_
      cases mx
      · exact run_builtin (s := Builtin.min_ at_ ty (args.map ev)) (fun consts => by simp [builtin]) (by unfold Builtin.min_; rw [hargs]; simpa using hy1)
      · exact run_builtin (s := Builtin.max_ at_ ty (args.map ev)) (fun consts => by simp [builtin]) (by unfold Builtin.max_; rw [hargs]; simpa using hy1)
  · cases he
theorem part_take {cs r : List V} {o n m : Nat} (h : part cs o n = some r) (hm : m ≤ n) : part cs o m = some (r.take m) := by
  obtain ⟨h1, rfl, h3⟩ := part_some h
  rw [part_eq, if_pos (by omega), List.take_take, Nat.min_eq_left hm]
theorem hmm (a b : Nat) : Nat.min a b = bif Nat.ble a b then a else b := by
  show min a b = _
  by_cases h : a ≤ b
  · rw [Nat.min_eq_left h, Nat.ble_eq_true_of_le h]; rfl
  · rw [Nat.min_eq_right (by omega)]
    cases hb : Nat.ble a b with
    | true => exact absurd (Nat.le_of_ble_eq_true hb) h
    | false => rfl
theorem ok_copy (d : Option Nat) (args : Array Operand) (at_ : Array TypeId) (ty : Nat) (pos : String) (af : Array Edge) (g : Option (Nat × Bool)) : OpOK P T call ⟨d, .call ⟨.builtin .copy, args, at_⟩, ty, pos, af, g⟩ := by
  intro kd c μ κ vs ts ls h w w₀ ev v ls' h' hx he
  obtain ⟨args⟩ := args
  obtain ⟨at_⟩ := at_
  rcases args with _ | ⟨x, _ | ⟨y, _ | ⟨z, r⟩⟩⟩ <;> rcases at_ with _ | ⟨t, _ | ⟨u, _ | ⟨q, r'⟩⟩⟩ <;> try (simp [compO, callO, evO, e_no] at he; done)
  simp only [compO, callO] at he ⊢
  cases ht : tUnd T t with
  | none => simp [ht, evO, e_no] at he
  | some dt =>
  rw [ht] at he
  cases dt <;> try (simp [evO, e_no] at he; done)
  rename_i e
  simp only at he ⊢
  have hP := tUnd_ok hx.T ht
  cases hi : tInfo T e with
  | none => simp [hi, evO, e_no] at he
  | some ti =>
  cases hX : opd kd c x with
  | none => simp [hi, hX, evO, e_no] at he
  | some X =>
  cases hY : opd kd c y with
  | none => simp [hi, hX, hY, evO, e_no] at he
  | some Y =>
  have rx := hx.O.v _ _ (by simp [Op.operands, Call.operands]) hX
  have ry := hx.O.v _ _ (by simp [Op.operands, Call.operands]) hY
  simp only [hi, hX, hY] at he ⊢
  have hb : ∀ {w' : World} {z : Value}, (Builtin.copy_ #[t, u] ty #[ev x, ev y]).run P w = .ok z w' → (execOp ev ⟨d, .call ⟨.builtin .copy, ⟨[x, y]⟩, ⟨[t, u]⟩⟩, ty, pos, af, g⟩).run P w = .ok (.value z) w' :=
    fun h => run_builtin (s := Builtin.copy_ #[t, u] ty #[ev x, ev y]) (fun consts => by simp [builtin]) h
  cases hu : tUnd T u with
  | none => simp [hu, evO, e_no] at he
  | some du =>
  rw [hu] at he
  -- nothing is copied into nil
  have intoNil : ∀ {op : O} (n : Nat), boxed op = none → ev x = .slice none 0 0 → (∀ w, (Builtin.lenOf (ev y)).run P w = .ok n w) → (∃ ys, (Builtin.firstCells ti.sz 0 (ev y)).run P w = .ok ys w) → v = .i .i64 0 → ls' = ls → h' = h →
      Does P ⟨d, .call ⟨.builtin .copy, ⟨[x, y]⟩, ⟨[t, u]⟩⟩, ty, pos, af, g⟩ ev w (Res μ κ h w w₀ op none v ls' h') := by
    intro op n hbx h1 h2 ⟨ys, h3⟩ hv e1 e2
    subst hv e1 e2
    refine Does.pure hx (y := goInt (0 : Nat)) (.i _ _) hbx (hb ?_)
    simp only [Builtin.copy_, List.getElem?_toArray, List.getElem?_cons_zero, List.getElem?_cons_succ, Sem.run_bind, run_underlying hP, h1, h2, run_sizeOf hx.T hi, Result.andThen_ok, Nat.min_zero, h3, Sem.run_pure]
  -- into a row
  have into : ∀ {op : O} {szz : Nat} (b o n m len : Nat) (cap : Option Nat) (cs cs2 : List V) (src : List V) (ys : List Value), boxed op = none → VRel μ (.sl b o n szz cap) (ev x) → h.get b = some (.cells cs) → wrt cs o src = some cs2 → VRs μ src ys → oneCells ys →
      (∀ w, (Builtin.lenOf (ev y)).run P w = .ok len w) → Nat.min len n = m → (Builtin.firstCells ti.sz m (ev y)).run P w = .ok ys.toArray w → (m = 0 → src = []) → v = .i .i64 (.ofNat m) → ls' = ls → h' = h.set b (some (.cells cs2)) →
      Does P ⟨d, .call ⟨.builtin .copy, ⟨[x, y]⟩, ⟨[t, u]⟩⟩, ty, pos, af, g⟩ ev w (Res μ κ h w w₀ op none v ls' h') := by
    intro op szz b o n m len cap cs cs2 src ys hbx hrx hg hw hv ho hlen hm hfc h0 e1 e2 e3
    subst e1 e2 e3
    generalize hvx : ev x = x' at hrx
    cases hrx with | sl hmu hn hc ha hN =>
    rename_i c' β N a k
    obtain ⟨c2, β2, N2, hm2, hrow⟩ := hx.H.blk b _ hg
    rw [hmu] at hm2
    cases hm2
    have hrow' : Row μ cs w c' β N := hrow
    obtain ⟨hfit, rfl⟩ := wrt_some hw
    obtain ⟨w', hst, hr2, hon⟩ := hrow'.store (P := P) o src ys hv ho hfit
    have hst' : (storeCells ⟨c', a, none⟩ ys).run P w = .ok () w' := by
      by_cases hm0 : m = 0
      · have hs := h0 hm0
        subst hs
        cases hv
        simp [storeCells] at hst ⊢
        exact hst
      · have hmn : m ≤ n := by rw [← hm]; exact Nat.min_le_right _ _
        have : a = β + o := by rcases ha with h | h <;> omega
        rw [this]; exact hst
    refine Does.heap hx (hx.H.put hg hmu hon hr2) (Fr.put hg hmu hon) (y := goInt m) (.i _ _) hbx (.inl (hb ?_))
    simp only [Builtin.copy_, List.getElem?_toArray, List.getElem?_cons_zero, List.getElem?_cons_succ, Sem.run_bind, run_underlying hP, hvx, hlen, run_sizeOf hx.T hi, Result.andThen_ok, hm, hfc, hst', Sem.run_pure]
  cases du <;> try (simp [evO, e_no] at he; done)
  case string =>
    simp only [evO, e_cpyS] at he ⊢
    split at he
    · rename_i r b o n sz' cap hyr hxr
      rw [hyr] at ry
      rw [hxr] at rx
      cases hs : (!Nat.beq sz' 1) with
      | true => rw [hs] at he; simp at he
      | false =>
      rw [hs] at he
      simp only [cond_false, slen_eq, Nat.add_zero, ← hmm] at he
      split at he
      · rename_i cs hcs
        split at he
        · rename_i cs2 hw
          simp only [Rs.ok.injEq] at he
          obtain ⟨rfl, rfl, rfl⟩ := he
          generalize hvy : ev y = y' at ry
          cases ry with | s l s' hl =>
          have hsz := bytes_len hl
          have hv := vbytes_ok (μ := μ) (s'.extract 0 (Nat.min r.length n))
          have hex := bytes_extract hl 0 (Nat.min r.length n)
          simp only [List.drop_zero, Nat.sub_zero] at hex
          rw [hex] at hv
          exact into b o n (Nat.min r.length n) r.length cap cs cs2 _ _ rfl rx hcs hw hv.1 hv.2 (fun w => by rw [hvy]; simp [Builtin.lenOf, hsz]) rfl (by
            rw [hvy]
            simp only [Builtin.firstCells, Sem.run_pure]
            congr 1
            apply Array.ext'
            simp) (fun h0 => by rw [h0]; rfl) rfl rfl rfl
        · cases he
      · cases he
    · rename_i r hyr hxr
      rw [hyr] at ry
      rw [hxr] at rx
      generalize hvx : ev x = x' at rx
      cases rx
      simp only [Rs.ok.injEq] at he
      obtain ⟨rfl, rfl, rfl⟩ := he
      generalize hvy : ev y = y' at ry
      cases ry with | s l s' hl =>
      exact intoNil s'.size rfl hvx (fun w => by simp [hvy, Builtin.lenOf]) ⟨_, by simp [hvy, Builtin.firstCells]; rfl⟩ rfl rfl rfl
    · cases he
  case slice e' =>
    simp only [evO, e_cpy] at he ⊢
    split at he
    · rename_i src b o n sz' cap hsrc hxr
      cases hs : (!Nat.beq ti.sz sz') with
      | true => rw [hs] at he; simp at he
      | false =>
      rw [hs] at he
      have hsz : ti.sz = sz' := by simpa using hs
      subst hsz
      rw [hxr] at rx
      simp only [cond_false, vtake_eq] at he
      split at he
      · rename_i cs hcs
        split at he
        · rename_i cs2 hw
          simp only [Rs.ok.injEq] at he
          obtain ⟨rfl, rfl, rfl⟩ := he
          rcases cellsOf_ok hx.H ry hsrc with ⟨h1, hy, rfl⟩ | ⟨b2, o2, n2, cap2, c', β, N, a, k, cs', h1, h2, hrow, hp, ha, hn, hmu, hg⟩
          · rw [h1] at hw
            simp only [lenSl, List.take_nil] at hw
            exact into (op := .cpy X Y ti.sz) b o n 0 0 cap cs cs2 [] [] rfl rx hcs hw .nil (by simp [oneCells]) (fun w => by rw [hy]; simp [Builtin.lenOf]) (Nat.zero_min _) (by rw [hy]; simp [Builtin.firstCells]) (fun _ => rfl) (by rw [h1]; have : Nat.ble 0 n = true := Nat.ble_eq_true_of_le (Nat.zero_le _); simp [lenSl, this]) rfl rfl
          · rw [h1] at hw
            simp only [lenSl, ← hmm] at hw
            have hle : Nat.min n2 n ≤ n2 := Nat.min_le_left _ _
            have hp' := part_take hp (Nat.mul_le_mul_right ti.sz hle)
            obtain ⟨ys, f1, f2, f3⟩ := firstCells_some (P := P) (k := k) hrow hp' (by
              rcases ha with h | h
              · left
                have : n2 = 0 := by omega
                subst this
                show min 0 n * ti.sz = 0
                simp
              · exact .inr h)
            refine into (op := .cpy X Y ti.sz) b o n (Nat.min n2 n) n2 cap cs cs2 _ ys rfl rx hcs hw f2 f3 (fun w => by rw [h2]; simp [Builtin.lenOf]) rfl ?_ (fun h0 => by rw [h0]; simp) (by rw [h1, hmm]; rfl) rfl rfl
            rw [h2]
            have : ∀ n2', (Builtin.firstCells ti.sz (Nat.min n2 n) (.slice (some ⟨c', a, none⟩) n2' k)).run P w = (Builtin.firstCells ti.sz (Nat.min n2 n) (.slice (some ⟨c', a, none⟩) (Nat.min n2 n) k)).run P w := fun _ => rfl
            rw [this]
            exact f1
        · cases he
      · cases he
    · rename_i hsrc hxr
      rw [hxr] at rx
      generalize hvx : ev x = x' at rx
      cases rx
      simp only [Rs.ok.injEq] at he
      obtain ⟨rfl, rfl, rfl⟩ := he
      rcases cellsOf_ok hx.H ry hsrc with ⟨h1, hy, rfl⟩ | ⟨b2, o2, n2, cap2, c', β, N, a, k, cs', h1, h2, hrow, hp, ha, hn, hmu, hg⟩
      · exact intoNil 0 rfl hvx (fun w => by simp [hy, Builtin.lenOf]) ⟨_, by simp [hy, Builtin.firstCells]; rfl⟩ rfl rfl rfl
      · exact intoNil n2 rfl hvx (fun w => by simp [h2, Builtin.lenOf]) ⟨_, by simp [h2, Builtin.firstCells, loadCells, loadCellsFrom]; rfl⟩ rfl rfl rfl
    · cases he
end Am
namespace Am
open Go
variable {P : Program} {T : TT} {call : CallT} {μ : Mp}

theorem ok_clear (d : Option Nat) (args : Array Operand) (at_ : Array TypeId) (ty : Nat) (pos : String) (af : Array Edge) (g : Option (Nat × Bool)) : OpOK P T call ⟨d, .call ⟨.builtin .clear, args, at_⟩, ty, pos, af, g⟩ := by
  intro kd c μ κ vs ts ls h w w₀ ev v ls' h' hx he
  obtain ⟨args⟩ := args
  obtain ⟨at_⟩ := at_
  rcases args with _ | ⟨x, _ | ⟨y, r⟩⟩ <;> rcases at_ with _ | ⟨t, _ | ⟨u, r'⟩⟩ <;> try (simp [compO, callO, evO, e_no] at he; done)
  simp only [compO, callO] at he ⊢
  have hb : ∀ {w' : World} {z : Value}, (Builtin.clear_ #[t] ty #[ev x]).run P w = .ok z w' → (execOp ev ⟨d, .call ⟨.builtin .clear, ⟨[x]⟩, ⟨[t]⟩⟩, ty, pos, af, g⟩).run P w = .ok (.value z) w' :=
    fun h => run_builtin (s := Builtin.clear_ #[t] ty #[ev x]) (fun consts => by simp [builtin]) h
  cases ht : tUnd T t with
  | none => simp [ht, evO, e_no] at he
  | some dt =>
  rw [ht] at he
  have hP := tUnd_ok hx.T ht
  cases dt <;> try (simp [evO, e_no] at he; done)
  case slice e =>
    simp only at he ⊢
    cases hi : tInfo T e with
    | none => simp [hi, evO, e_no] at he
    | some ti =>
    cases hX : opd kd c x with
    | none => simp [hi, hX, evO, e_no] at he
    | some X =>
    have rx := hx.O.v _ _ (by simp [Op.operands, Call.operands]) hX
    simp only [hi, hX, evO, e_clr] at he ⊢
    split at he
    · rename_i hr
      rw [hr] at rx
      generalize hvy : ev x = y' at rx
      cases rx
      simp only [Rs.ok.injEq] at he
      obtain ⟨rfl, rfl, rfl⟩ := he
      exact Does.pure hx (y := .tuple #[]) (.t .nil) rfl (hb (by simp [Builtin.clear_, run_underlying hP, hvy]))
    · rename_i b o n sz' cap hr
      rw [hr] at rx
      generalize hvy : ev x = y' at rx
      cases rx with | sl hmu hn hc ha hN =>
      rename_i c' β N a k
      cases hs : (!Nat.beq ti.sz sz') with
      | true => rw [hs] at he; simp at he
      | false =>
      rw [hs] at he
      have hsz : ti.sz = sz' := by simpa using hs
      subst hsz
      simp only [cond_false] at he
      split at he
      · rename_i cs hcs
        split at he
        · rename_i cs2 hw
          simp only [Rs.ok.injEq] at he
          obtain ⟨rfl, rfl, rfl⟩ := he
          obtain ⟨c2, β2, N2, hm2, hrow⟩ := hx.H.blk b _ hcs
          rw [hmu] at hm2
          cases hm2
          have hrow' : Row μ cs w c' β N := hrow
          obtain ⟨hfit, rfl⟩ := wrt_some hw
          obtain ⟨z, hz, _, hvc, ho, hzs⟩ := run_zeroValue (P := P) hx.T hi w
          have h0 : 0 < ti.sz := by obtain ⟨i, z, d, _, _, _, _, _, h0, _⟩ := tInfo_ok hx.T hi; exact h0
          have hzc := zeroCells_eq z.cells ti.sz n hzs h0
          by_cases hn0 : n = 0
          · subst hn0
            have hov : over cs o (vrep 0 ti.zc) = cs := by show over cs o [] = cs; cases cs <;> rfl
            rw [hov]
            refine Does.heap hx (hx.H.put hcs hmu (Only.refl w c') (x' := .cells cs) hrow) (Fr.put hcs hmu (Only.refl w c')) (y := .tuple #[]) (.t .nil) rfl (.inl (hb ?_))
            simp [Builtin.clear_, run_underlying hP, hvy]
          · have ha' : a = β + o := by rcases ha with h | h <;> omega
            subst ha'
            have hvr : VRs μ (vrep n ti.zc) (List.replicate n z.cells.toList).flatten := by rw [vrep_eq]; exact (hvc μ).flat n
            obtain ⟨w', hst, hr2, hon⟩ := hrow'.store (P := P) o _ _ hvr (VRs.oneFlat ho n) hfit
            refine Does.heap hx (hx.H.put hcs hmu hon hr2) (Fr.put hcs hmu hon) (y := .tuple #[]) (.t .nil) rfl (.inl (hb ?_))
            rw [← hzc] at hst
            match n, hn0 with
            | n + 1, _ => simp [Builtin.clear_, run_underlying hP, hvy, hz, hst]
        · cases he
      · cases he
    · cases he
  case map kt vt =>
    simp only at he ⊢
    cases hX : opd kd c x with
    | none => simp [hX, evO, e_no] at he
    | some X =>
    have rx := hx.O.v _ _ (by simp [Op.operands, Call.operands]) hX
    simp only [hX, evO, e_mclr] at he ⊢
    split at he
    · rename_i hr
      rw [hr] at rx
      generalize hvy : ev x = y' at rx
      cases rx
      simp only [Rs.ok.injEq] at he
      obtain ⟨rfl, rfl, rfl⟩ := he
      exact Does.pure hx (y := .tuple #[]) (.t .nil) rfl (hb (by simp [Builtin.clear_, run_underlying hP, hvy]))
    · rename_i r hr
      rw [hr] at rx
      generalize hvy : ev x = y' at rx
      cases rx with | m hmu =>
      split at he
      · rename_i es hes
        obtain ⟨E, n, hE, hV⟩ := getMap hx.H hmu hes
        simp only [Rs.ok.injEq] at he
        obtain ⟨rfl, rfl, rfl⟩ := he
        refine Does.setMap hx hmu hes hE (n' := n) (E' := #[]) (y := .tuple #[]) .nil rfl (.t .nil) (.inl (hb ?_))
        simp [Builtin.clear_, run_underlying hP, hvy, getObj_run hE, run_setMap _ hE]
      · cases he
    · cases he

theorem wrap_small (n : Nat) (h : n < 2 ^ 62) : IntKind.i64.wrap (n : Int) = n := by
  rw [IntKind.wrap_i64]
  omega
theorem ok_makeSlice (d : Option Nat) (t : Nat) (l k : Operand) (ty : Nat) (pos : String) (af : Array Edge) (g : Option (Nat × Bool)) : OpOK P T call ⟨d, .makeSlice t l k, ty, pos, af, g⟩ := by
  intro kd c μ κ vs ts ls h w w₀ ev v ls' h' hx he
  simp only [compO] at he ⊢
  cases hs : sliceOf T t with
  | none => simp [hs, evO, e_no] at he
  | some te =>
  cases hL : opd kd c l with
  | none => simp [hs, hL, evO, e_no] at he
  | some L =>
  cases hK : opd kd c k with
  | none => simp [hs, hL, hK, evO, e_no] at he
  | some K =>
  simp only [hs, hL, hK, evO, e_mks] at he ⊢
  have rl := hx.O.v _ _ (by simp [Op.operands]) hL
  have rk := hx.O.v _ _ (by simp [Op.operands]) hK
  obtain ⟨e, hu, hi⟩ := sliceOf_ok hx.T hs
  obtain ⟨i, z0, dd, hPi, _, _, hsz, hby, h0, h1, _⟩ := tInfo_ok hx.T hi
  obtain ⟨z, hz, _, hvc, ho, hzs⟩ := run_zeroValue (P := P) hx.T hi w
  split at he
  · rename_i a b ha hb
    obtain ⟨k1, hl⟩ := nat_of rl ha
    obtain ⟨k2, hk⟩ := nat_of rk hb
    cases hbb : (Nat.ble a b && Nat.ble (b * te.by_) 1099511627776) with
    | false => rw [hbb] at he; simp at he
    | true =>
    rw [hbb] at he
    rw [Bool.and_eq_true] at hbb
    have hab := Nat.le_of_ble_eq_true hbb.1
    have hbytes := Nat.le_of_ble_eq_true hbb.2
    simp only [cond_true, Rs.ok.injEq] at he
    obtain ⟨rfl, rfl, rfl⟩ := he
    have hb2 : b ≤ b * te.by_ := Nat.le_mul_of_pos_right _ h1
    have wa := wrap_small a (by omega)
    have wb := wrap_small b (by omega)
    have hbz : (te.by_ : Int) * (b : Int) ≤ 1099511627776 := by rw [← Int.natCast_mul, Nat.mul_comm]; omega
    let row := (Array.range (b * te.sz)).map ((if b * te.sz = 0 then #[] else z.cells)[· % (if b * te.sz = 0 then #[] else z.cells).size]!)
    have hrow : row.toList = (List.replicate b z.cells.toList).flatten := by
      by_cases hb0 : b = 0
      · subst hb0
        simp [row]
      · have : b * te.sz ≠ 0 := by
          intro h; rcases Nat.mul_eq_zero.1 h with h | h <;> omega
        simp only [row, this, if_false]
        exact zeros_eq b z.cells te.sz hzs h0
    have hrun : (Instr.makeSlice t (ev l) (ev k)).run P w = .ok (.slice (some ⟨w.heap.size, 0, none⟩) a b) (w.alloc (.cells row e)) := by
      have e1 : ¬ ((b : Int) < 0) := by omega
      have e2 : ¬ ((te.by_ : Int) * (b : Int) > 2 ^ 48) := by omega
      have e3 : ¬ ((a : Int) < 0) := by omega
      have e4 : ¬ ((a : Int) > (b : Int)) := by omega
      simp only [Instr.makeSlice, Sem.run_bind, run_underlying hu, hl, hk, asInt, run_asIntOf, Result.andThen_ok, Sem.run_pure, run_typeInfo hPi, wa, wb, hby, e1, e2, e3, e4, decide_false, Bool.or_false, Bool.false_eq_true, if_false, run_askRoom, Int.toNat_natCast, run_sizeOf hx.T hi]
      by_cases hb0 : b * te.sz = 0
      · simp only [hb0, if_true, Sem.run_pure, Result.andThen_ok, newRow, run_newObj, Sem.run_bind]
        simp only [row, hb0, if_true]
        rfl
      · simp only [hb0, if_false, Sem.run_bind, hz, Sem.run_pure, Result.andThen_ok, newRow, run_newObj]
        simp only [row, hb0, if_false]
        rfl
    have gr := Grew.alloc w (.cells row e)
    have hN := Row.new0 (μ := upd μ h.n (w.heap.size, 0, (vrep b te.zc).length)) w (vrep b te.zc) row e (by rw [hrow, vrep_eq]; exact (hvc _).flat b) (by rw [hrow]; exact VRs.oneFlat ho b)
    refine Does.heap hx (hx.H.new gr (.cells (vrep b te.zc)) (vrep b te.zc).length hN) (Fr.new hx.H gr _ _) (.sl (β := 0) (upd_self _ _) hab (by intro j hj; cases hj; rfl) (.inr rfl) ?_) rfl (.inl (by simp [execOp, hrun]))
    have hl := (hvc μ).length
    rw [vrep_eq]
    simp [hl, hzs]
  · cases he
theorem ok_callf (hc : CallOK P call) (d : Option Nat) (f : Operand) (args : Array Operand) (at_ : Array TypeId) (ty : Nat) (pos : String) (af : Array Edge) (g : Option (Nat × Bool)) : OpOK P T call ⟨d, .call ⟨.value f, args, at_⟩, ty, pos, af, g⟩ := by
  intro kd c μ κ vs ts ls h w w₀ ev v ls' h' hx he
  have fin : ∀ {op : O} (n : Nat) (as : List V) (as' : Array Value), boxed op = none → Rs.ofP ls (call n as h) = .ok v ls' h' → VRs μ as as'.toList →
      (execOp ev ⟨d, .call ⟨.value f, args, at_⟩, ty, pos, af, g⟩).run P w = (callFunc n as').run P w →
      Does P ⟨d, .call ⟨.value f, args, at_⟩, ty, pos, af, g⟩ ev w (Res μ κ h w w₀ op none v ls' h') := by
    intro op n as as' hb e hv hr
    obtain ⟨e1, rfl⟩ := Rs.ofP_ok e
    have conv : ∀ y w', (∃ μ', HRel μ' h' w' ∧ Fr μ h w μ' h' w' ∧ VRel μ' v y) → Res μ κ h w w₀ op none v ls' h' y w' :=
      fun y w' ⟨μ', h1, h2, h3⟩ => ⟨μ', κ, h1, hx.L.frame h2, h2.weak hx.w, by rw [hb]; exact h3, fun _ _ => rfl⟩
    rcases hc n as h v h' e1 μ w as' hx.H hv with ⟨y, w', hR, hrun⟩ | ⟨w1, hrun, hcalls⟩
    · exact .inl ⟨y, w', conv y w' hR, .inl (by rw [hr]; exact hrun)⟩
    · refine .inr ⟨n, as', w1, by rw [hr]; exact hrun, Calls.mono hcalls fun e w' he => ?_⟩
      cases e with
      | returned y => exact conv y w' he
      | panicked ch => exact he
      | outgrown => exact he
  have hargs : ∀ {l : List X}, opds kd c args.toList = some l → VRs μ (getXs vs ts l) (args.map ev).toList := by
    intro l hl
    have := opds_ok hx.O args.toList l (fun x hm => by simpa [Op.operands, Call.operands] using .inr (by simpa using hm)) hl
    simpa using this
  have vals : evO call vs ts ls h (match opd kd c f, opds kd c args.toList with | some x, some l => .callv x l | _, _ => .no) = .ok v ls' h' →
      Does P ⟨d, .call ⟨.value f, args, at_⟩, ty, pos, af, g⟩ ev w (Res μ κ h w w₀ (match opd kd c f, opds kd c args.toList with | some x, some l => .callv x l | _, _ => .no) none v ls' h') := by
    intro he
    cases hF : opd kd c f with
    | none => simp [hF, evO, e_no] at he
    | some F =>
    cases hl : opds kd c args.toList with
    | none => simp [hF, hl, evO, e_no] at he
    | some l =>
    simp only [hF, hl, evO, e_callv] at he ⊢
    have rf := hx.O.v _ _ (by simp [Op.operands, Call.operands]) hF
    split at he
    · rename_i n fs cs hr
      rw [hr] at rf
      generalize hvf : ev f = f' at rf
      cases rf with | f h1 h2 =>
      rename_i fs' cs'
      refine fin n _ (fs' ++ args.map ev ++ cs') rfl he ?_ ?_
      · rw [vapp_eq, vapp_eq, ← List.append_assoc]
        have := (h1.append (hargs hl)).append h2
        simpa using this
      · simp [execOp, resolve, hvf, Deferred.ofValue, invoke]
    · cases he
  cases f with
  | func n =>
    simp only [compO, callO] at he ⊢
    cases hl : opds kd c args.toList with
    | none => simp [hl, evO, e_no] at he
    | some l =>
    simp only [hl, evO, e_call] at he ⊢
    have rf := hx.O.v (.func n) (.c (.f n [] [])) (by simp [Op.operands, Call.operands]) rfl
    simp only [getX] at rf
    generalize hvf : ev (.func n) = f' at rf
    cases rf with | f h1 h2 =>
    rename_i fs' cs'
    have e1 : fs' = #[] := by cases fs'; cases h1; rfl
    have e2 : cs' = #[] := by cases cs'; cases h2; rfl
    subst e1 e2
    refine fin n _ (args.map ev) rfl he (hargs hl) ?_
    simp [execOp, resolve, hvf, Deferred.ofValue, invoke]
  | tmp t => exact vals he
  | const v0 => exact vals he
  | global g0 => exact vals he
end Am
namespace Am
open Go
variable {P : Program} {T : TT} {call : CallT} {μ : Mp}
theorem ok_all (hc : CallOK P call) (o : Oper) : OpOK P T call o := by
  obtain ⟨d, op, ty, pos, af, g⟩ := o
  have no : (∀ kd c, compO T kd c ⟨d, op, ty, pos, af, g⟩ = (.no, none)) → OpOK P T call ⟨d, op, ty, pos, af, g⟩ := by
    intro hn kd c μ κ vs ts ls h w w₀ ev v ls' h' hx he
    rw [hn] at he
    simp [evO, e_no] at he
  cases op
  case move => exact ok_move  _ _ _ _ _ _
  case assign => exact ok_assign  _ _ _ _ _ _
  case pick => exact ok_pick  _ _ _ _ _ _ _ _
  case alloc => exact ok_alloc  _ _ _ _ _ _
  case box => exact ok_box  _ _ _ _ _ _ _
  case build => exact ok_build  _ _ _ _ _ _ _
  case buildSlice => exact ok_buildSlice  _ _ _ _ _ _ _ _
  case load => exact ok_load  _ _ _ _ _ _ _
  case store => exact ok_store  _ _ _ _ _ _ _ _
  case nilCheck => exact ok_nilCheck  _ _ _ _ _ _
  case binOp => exact ok_binOp  _ _ _ _ _ _ _ _ _ _
  case unOp => exact ok_unOp  _ _ _ _ _ _ _ _
  case convert => exact ok_convert  _ _ _ _ _ _ _ _
  case makeInterface => exact ok_makeInterface  _ _ _ _ _ _ _
  case makeFunc fn a b =>
    cases fn with
    | func f => exact ok_makeFunc  _ _ _ _ _ _ _ _
    | _ => exact no fun kd c => rfl
  case makeMap => exact ok_makeMap  _ _ _ _ _ _ _
  case makeSlice => exact ok_makeSlice  _ _ _ _ _ _ _ _
  case slice => exact ok_slice  _ _ _ _ _ _ _ _ _ _
  case fieldAddr => exact ok_fieldAddr  _ _ _ _ _ _ _ _
  case field => exact ok_field  _ _ _ _ _ _ _ _
  case indexAddr => exact ok_indexAddr  _ _ _ _ _ _ _ _
  case index => exact ok_index  _ _ _ _ _ _ _ _
  case lookup => exact ok_lookup  _ _ _ _ _ _ _ _ _
  case mapUpdate => exact ok_mapUpdate  _ _ _ _ _ _ _ _ _
  case extract => exact ok_extract  _ _ _ _ _ _ _
  case call cl =>
    obtain ⟨cal, args, at_⟩ := cl
    cases cal with
    | value f => exact ok_callf hc _ _ _ _ _ _ _ _
    | invoke r n => exact no fun kd c => rfl
    | builtin b =>
      cases b
      case append => exact ok_append  _ _ _ _ _ _ _
      case len => exact ok_len  _ _ _ _ _ _ _
      case cap => exact ok_cap  _ _ _ _ _ _ _
      case copy => exact ok_copy  _ _ _ _ _ _ _
      case clear => exact ok_clear  _ _ _ _ _ _ _
      case delete => exact ok_delete  _ _ _ _ _ _ _
      case max => exact ok_mnx true _ _ _ _ _ _ _
      case min => exact ok_mnx false _ _ _ _ _ _ _
      all_goals exact no fun kd c => by simp [compO, callO]
  all_goals exact no fun kd c => rfl
end Am
namespace Am
open Go
variable {P : Program} {T : TT} {call : CallT} {μ : Mp}

/-! The last one so far -/
def lastP (p : Nat → Bool) : Nat → Option Nat
  | 0 => none
  | n + 1 => if p n then some n else lastP p n
theorem lastP_congr {p q : Nat → Bool} : ∀ {n : Nat}, (∀ k < n, p k = q k) → lastP p n = lastP q n
  | 0, _ => rfl
  | n + 1, h => by
    simp only [lastP, h n (by omega)]
    rw [lastP_congr (n := n) fun k hk => h k (by omega)]
theorem lastP_some {p : Nat → Bool} : ∀ {n k : Nat}, lastP p n = some k → k < n ∧ p k = true ∧ ∀ j, k < j → j < n → p j = false
  | n + 1, k, h => by
    simp only [lastP] at h
    split at h
    · rename_i hp
      cases h
      exact ⟨by omega, hp, fun j h1 h2 => by omega⟩
    · rename_i hp
      obtain ⟨h1, h2, h3⟩ := lastP_some h
      refine ⟨by omega, h2, fun j hj hjn => ?_⟩
      by_cases e : j = n
      · subst e; simpa using hp
      · exact h3 j hj (by omega)
theorem lastP_none {p : Nat → Bool} : ∀ {n : Nat}, lastP p n = none → ∀ k < n, p k = false
  | n + 1, h, k, hk => by
    simp only [lastP] at h
    split at h
    · cases h
    · rename_i hp
      by_cases e : k = n
      · subst e; simpa using hp
      · exact lastP_none h k (by omega)
theorem lastP_is {p : Nat → Bool} {n k : Nat} (hk : k < n) (hp : p k = true) (h : ∀ j, k < j → j < n → p j = false) : lastP p n = some k := by
  cases hl : lastP p n with
  | none => rw [lastP_none hl k hk] at hp; cases hp
  | some m =>
    obtain ⟨h1, h2, h3⟩ := lastP_some hl
    rcases Nat.lt_trichotomy m k with e | e | e
    · rw [h3 k e hk] at hp; cases hp
    · rw [e]
    · rw [h m e h1] at h2; cases h2
theorem lastP_not {p : Nat → Bool} {n : Nat} (h : ∀ k < n, p k = false) : lastP p n = none := by
  cases hl : lastP p n with
  | none => rfl
  | some m =>
    obtain ⟨h1, h2, _⟩ := lastP_some hl
    rw [h m h1] at h2; cases h2

/-! What is compiled, place by place -/
def cxAt (T : TT) (kd : List Kd) : List Oper → Ctx → Nat → Ctx
  | [], c, _ => c
  | _ :: _, c, 0 => c
  | o :: r, c, i + 1 => cxAt T kd r ⟨dstT kd o.dst :: c.ds, (compO T kd c o).2 :: c.rt⟩ i
theorem compR_at {kd : List Kd} : ∀ {r : List Oper} {n : Nat} {c c' : Ctx} {l : List RO}, compR T kd r n c = some (l, c') → ∀ i o, r[i]? = some o →
    ∃ g d, roAt l i = some ⟨g, d, (compO T kd (cxAt T kd r c i) o).1⟩ ∧ grd (n + i) (cxAt T kd r c i) o.guard = some g ∧ dstV kd o.dst = some d ∧ dstOk kd o = true ∧ rtOk d (compO T kd (cxAt T kd r c i) o).2 = true := by
  intro r
  induction r with
  | nil => intro n c c' l _ i o hi; simp at hi
  | cons a r ih =>
    intro n c c' l h i o hi
    simp only [compR] at h
    split at h
    · rename_i g d hg hd
      cases hb : (!(dstOk kd a && rtOk d (compO T kd c a).2)) with
      | true => rw [hb] at h; simp at h
      | false =>
      rw [hb] at h
      simp only [Bool.not_eq_false', Bool.and_eq_true] at hb
      simp only [cond_false] at h
      split at h
      · rename_i l2 c2 h2
        cases h
        cases i with
        | zero => simp at hi; subst hi; exact ⟨g, d, rfl, hg, hd, hb.1, hb.2⟩
        | succ i =>
          simp at hi
          obtain ⟨g', d', e1, e2, e3, e4, e5⟩ := ih h2 i o hi
          exact ⟨g', d', e1, by rw [show n + (i + 1) = n + 1 + i by omega]; exact e2, e3, e4, e5⟩
      · cases h
    · cases h
theorem compR_out {kd : List Kd} : ∀ {r : List Oper} {n : Nat} {c c' : Ctx} {l : List RO}, compR T kd r n c = some (l, c') → ∀ i, r[i]? = none → roAt l i = none := by
  intro r
  induction r with
  | nil => intro n c c' l h i _; simp [compR] at h; obtain ⟨rfl, _⟩ := h; rfl
  | cons a r ih =>
    intro n c c' l h i hi
    simp only [compR] at h
    split at h
    · rename_i g d hg hd
      cases hb : (!(dstOk kd a && rtOk d (compO T kd c a).2)) with
      | true => rw [hb] at h; simp at h
      | false =>
      rw [hb] at h
      simp only [cond_false] at h
      split at h
      · rename_i l2 c2 h2
        cases h
        cases i with
        | zero => simp at hi
        | succ i => simp at hi; exact ih h2 i (by simpa using hi)
      · cases h
    · cases h
theorem dsAt_eq (l : List (Option Nat)) (i : Nat) : dsAt l i = (l[i]?).getD none := by
  induction l generalizing i with
  | nil => simp [dsAt]
  | cons x l ih => cases i <;> simp [dsAt, ih]
theorem rtAt_eq (l : List Rt) (i : Nat) : rtAt l i = (l[i]?).getD none := by
  induction l generalizing i with
  | nil => simp [rtAt]
  | cons x l ih => cases i <;> simp [rtAt, ih]
theorem cxAt_back {kd : List Kd} : ∀ {r : List Oper} {c : Ctx} {i k : Nat} {o : Oper}, i ≤ r.length → k < i → r[k]? = some o →
    (cxAt T kd r c i).ds[i - 1 - k]? = some (dstT kd o.dst) ∧ (cxAt T kd r c i).rt[i - 1 - k]? = some (compO T kd (cxAt T kd r c k) o).2 := by
  have tail : ∀ {r : List Oper} {c : Ctx} {i : Nat}, i ≤ r.length → ∀ j, (cxAt T kd r c i).ds[i + j]? = c.ds[j]? ∧ (cxAt T kd r c i).rt[i + j]? = c.rt[j]? := by
    intro r
    induction r with
    | nil => intro c i hi j; simp at hi; subst hi; simp [cxAt]
    | cons a r ih =>
      intro c i hi j
      cases i with
      | zero => simp [cxAt]
      | succ i =>
        simp at hi
        have := ih (c := ⟨dstT kd a.dst :: c.ds, (compO T kd c a).2 :: c.rt⟩) hi (j + 1)
        simp only [cxAt]
        rw [show i + 1 + j = i + (j + 1) by omega]
        simpa using this
  intro r
  induction r with
  | nil => intro c i k o hi hk; simp at hi; omega
  | cons a r ih =>
    intro c i k o hi hk ho
    cases i with
    | zero => omega
    | succ i =>
      simp at hi
      simp only [cxAt]
      cases k with
      | zero =>
        simp at ho
        subst ho
        have := tail (c := ⟨dstT kd a.dst :: c.ds, (compO T kd c a).2 :: c.rt⟩) hi 0
        simpa [cxAt] using this
      | succ k =>
        simp at ho
        have := ih (c := ⟨dstT kd a.dst :: c.ds, (compO T kd c a).2 :: c.rt⟩) (i := i) (k := k) hi (by omega) ho
        rw [show i + 1 - 1 - (k + 1) = i - 1 - k by omega]
        exact this
theorem cxAt_len {kd : List Kd} : ∀ {r : List Oper} {c : Ctx} {i : Nat}, i ≤ r.length → (cxAt T kd r c i).ds.length = i + c.ds.length ∧ (cxAt T kd r c i).rt.length = i + c.rt.length := by
  intro r
  induction r with
  | nil => intro c i hi; simp at hi; subst hi; simp [cxAt]
  | cons a r ih =>
    intro c i hi
    cases i with
    | zero => simp [cxAt]
    | succ i =>
      simp at hi
      have := ih (c := ⟨dstT kd a.dst :: c.ds, (compO T kd c a).2 :: c.rt⟩) hi
      simp only [cxAt, List.length_cons] at this ⊢
      omega
theorem findD_some {t : Nat} : ∀ {l : List (Option Nat)} {n d : Nat}, findD t l n = some d → n ≤ d ∧ l[d - n]? = some (some t) ∧ ∀ j, j < d - n → l[j]? ≠ some (some t) := by
  intro l
  induction l with
  | nil => intro n d h; simp [findD] at h
  | cons x l ih =>
    intro n d h
    have step : findD t l (n + 1) = some d → x ≠ some t → n ≤ d ∧ (x :: l)[d - n]? = some (some t) ∧ ∀ j, j < d - n → (x :: l)[j]? ≠ some (some t) := by
      intro h hx
      obtain ⟨h1, h2, h3⟩ := ih h
      refine ⟨by omega, ?_, fun j hj => ?_⟩
      · rw [show d - n = (d - (n + 1)) + 1 by omega]; simpa using h2
      · cases j with
        | zero => simpa using hx
        | succ j => simpa using h3 j (by omega)
    cases x with
    | none => exact step h (by simp)
    | some u =>
      simp only [findD] at h
      cases hb : Nat.beq u t with
      | true =>
        rw [hb] at h
        have hu : u = t := by simpa [Nat.beq_eq] using hb
        simp at h
        subst h hu
        simp
      | false =>
        rw [hb] at h
        exact step h (by rintro ⟨⟩; simp at hb)
end Am
namespace Am
open Go
variable {call : CallT}
theorem setSlot_len (ls : Ls) (s : Nat) (cs : List V) : (setSlot ls s cs).length = ls.length := by
  induction ls generalizing s with
  | nil => rfl
  | cons a ls ih => cases s <;> simp [setSlot, ih]
def Local (call : CallT) (o : O) : Prop := ∀ vs ts ls h v ls' h', evO call vs ts ls h o = .ok v ls' h' →
  ls'.length = ls.length ∧ ((fp o).wh = false → h' = h) ∧ (∀ s, ¬ ((fp o).sl = some s ∧ (fp o).sw = true) → slot ls' s = slot ls s) ∧
  ∀ ls2 h2, (∀ s, (fp o).sl = some s → slot ls2 s = slot ls s) → ls2.length = ls.length → ((fp o).rh = true → h2 = h) →
    ∃ ls2', evO call vs ts ls2 h2 o = .ok v ls2' (if (fp o).wh then h' else h2) ∧ ls2'.length = ls2.length ∧ ∀ s, slot ls2' s = if (fp o).sl = some s ∧ (fp o).sw = true then slot ls' s else slot ls2 s
def Rs.val : Rs → Option V
  | .ok v _ _ => some v
  | .no => none
def Rs.valP : Rs → Option (V × H)
  | .ok v _ h => some (v, h)
  | .no => none
@[simp] theorem Rs.val_of (ls : Ls) (h : H) (x : Option V) : (Rs.of ls h x).val = x := by cases x <;> rfl
@[simp] theorem Rs.valP_ofP (ls : Ls) (x : Option (V × H)) : (Rs.ofP ls x).valP = x := by cases x <;> rfl
@[simp] theorem fold_ok (v : V) (ls : Ls) (h : H) : Rs.of ls h (some v) = .ok v ls h := rfl
@[simp] theorem fold_no (ls : Ls) (h : H) : Rs.of ls h none = .no := rfl
@[simp] theorem foldP_ok (v : V) (ls : Ls) (h : H) : Rs.ofP ls (some (v, h)) = .ok v ls h := rfl
@[simp] theorem foldP_no (ls : Ls) : Rs.ofP ls none = .no := rfl
@[simp] theorem Rs.val_ok (v : V) (ls : Ls) (h : H) : (Rs.ok v ls h).val = some v := rfl
@[simp] theorem Rs.val_no : Rs.no.val = none := rfl
@[simp] theorem Rs.valP_ok (v : V) (ls : Ls) (h : H) : (Rs.ok v ls h).valP = some (v, h) := rfl
@[simp] theorem Rs.valP_no : Rs.no.valP = none := rfl
/-- nothing but values -/
theorem local_pure {o : O} (hf : ∀ vs ts ls h ls2 h2, evO call vs ts ls h o = Rs.of ls h (evO call vs ts ls2 h2 o).val) (hp : fp o = ⟨none, false, false, false⟩) : Local call o := by
  intro vs ts ls h v ls' h' he
  have e0 := hf vs ts ls h ls h
  rw [he] at e0
  simp only [Rs.val, Rs.of, Rs.ok.injEq, true_and] at e0
  obtain ⟨rfl, rfl⟩ := e0
  rw [hp]
  refine ⟨rfl, fun _ => rfl, fun _ _ => rfl, fun ls2 h2 _ _ _ => ⟨ls2, ?_, rfl, fun s => by simp⟩⟩
  rw [hf vs ts ls2 h2 ls' h', he]
  rfl
/-- the heap is read -/
theorem local_read {o : O} (hf : ∀ vs ts ls h ls2, evO call vs ts ls h o = Rs.of ls h (evO call vs ts ls2 h o).val) (hp : fp o = ⟨none, false, true, false⟩) : Local call o := by
  intro vs ts ls h v ls' h' he
  have e0 := hf vs ts ls h ls
  rw [he] at e0
  simp only [Rs.val, Rs.of, Rs.ok.injEq, true_and] at e0
  obtain ⟨rfl, rfl⟩ := e0
  rw [hp]
  refine ⟨rfl, fun _ => rfl, fun _ _ => rfl, fun ls2 h2 _ _ hh => ⟨ls2, ?_, rfl, fun s => by simp⟩⟩
  have := hh rfl
  subst this
  rw [hf vs ts ls2 h2 ls', he]
  rfl
/-- the heap is written -/
theorem local_heap {o : O} (hf : ∀ vs ts ls h ls2, evO call vs ts ls h o = Rs.ofP ls (evO call vs ts ls2 h o).valP) (hp : fp o = ⟨none, false, true, true⟩) : Local call o := by
  intro vs ts ls h v ls' h' he
  have e0 := hf vs ts ls h ls
  rw [he] at e0
  simp only [Rs.valP, Rs.ofP, Rs.ok.injEq, true_and, and_true] at e0
  subst e0
  rw [hp]
  refine ⟨rfl, fun h => (by cases h), fun _ _ => rfl, fun ls2 h2 _ _ hh => ⟨ls2, ?_, rfl, fun s => by simp⟩⟩
  have := hh rfl
  subst this
  rw [hf vs ts ls2 h2 ls', he]
  rfl
/-- a slot is read -/
theorem local_slot {o : O} (s : Nat) (hf : ∀ vs ts ls h ls2 h2, slot ls s = slot ls2 s → evO call vs ts ls h o = Rs.of ls h (evO call vs ts ls2 h2 o).val) (hp : fp o = ⟨some s, false, false, false⟩) : Local call o := by
  intro vs ts ls h v ls' h' he
  have e0 := hf vs ts ls h ls h rfl
  rw [he] at e0
  simp only [Rs.val, Rs.of, Rs.ok.injEq, true_and] at e0
  obtain ⟨rfl, rfl⟩ := e0
  rw [hp]
  refine ⟨rfl, fun _ => rfl, fun _ _ => rfl, fun ls2 h2 hs _ _ => ⟨ls2, ?_, rfl, fun s => by simp⟩⟩
  rw [hf vs ts ls2 h2 ls' h' (hs s rfl), he]
  rfl
/-- a slot is read, the heap is written -/
theorem local_slotH {o : O} (s : Nat) (hf : ∀ vs ts ls h ls2, slot ls s = slot ls2 s → evO call vs ts ls h o = Rs.ofP ls (evO call vs ts ls2 h o).valP) (hp : fp o = ⟨some s, false, true, true⟩) : Local call o := by
  intro vs ts ls h v ls' h' he
  have e0 := hf vs ts ls h ls rfl
  rw [he] at e0
  simp only [Rs.valP, Rs.ofP, Rs.ok.injEq, true_and, and_true] at e0
  subst e0
  rw [hp]
  refine ⟨rfl, fun h => (by cases h), fun _ _ => rfl, fun ls2 h2 hs _ hh => ⟨ls2, ?_, rfl, fun s => by simp⟩⟩
  have := hh rfl
  subst this
  rw [hf vs ts ls2 h2 ls' (hs s rfl), he]
  rfl
/-- a slot is written -/
def Rs.ofS (ls : Ls) (s : Nat) (h : H) : Option (V × List V) → Rs
  | some (v, cs) => .ok v (setSlot ls s cs) h
  | none => .no
@[simp] theorem Rs.ofS_some (ls : Ls) (s : Nat) (h : H) (v : V) (cs : List V) : Rs.ofS ls s h (some (v, cs)) = .ok v (setSlot ls s cs) h := rfl
@[simp] theorem Rs.ofS_none (ls : Ls) (s : Nat) (h : H) : Rs.ofS ls s h none = .no := rfl
theorem local_slotW {o : O} (s : Nat) (f : List V → List V → Option (List V) → Option (V × List V)) (hf : ∀ vs ts ls h, evO call vs ts ls h o = Rs.ofS ls s h (f vs ts (slot ls s))) (hp : fp o = ⟨some s, true, false, false⟩) : Local call o := by
  intro vs ts ls h v ls' h' he
  rw [hf] at he
  cases hr : f vs ts (slot ls s) with
  | none => rw [hr] at he; simp [Rs.ofS] at he
  | some p =>
  obtain ⟨v0, cs⟩ := p
  rw [hr] at he
  simp only [Rs.ofS, Rs.ok.injEq] at he
  obtain ⟨rfl, rfl, rfl⟩ := he
  rw [hp]
  refine ⟨setSlot_len _ _ _, fun _ => rfl, fun s' hs => ?_, fun ls2 h2 hs hl _ => ⟨setSlot ls2 s cs, ?_, setSlot_len _ _ _, fun s' => ?_⟩⟩
  · rw [slot_set]
    simp only [and_true, Option.some.injEq] at hs
    rw [if_neg (fun h => hs h.1.symm)]
  · rw [hf, hs s rfl, hr]; rfl
  · rw [slot_set, slot_set, hl]
    by_cases e : s' = s
    · subst e
      simp only [true_and, and_self, if_true]
      have := hs s' rfl
      split <;> first | rfl | exact this
    · simp [e, Ne.symm e]
theorem loc_mv : ∀ x0 , Local call (.mv x0) := by
  intro x0
  refine local_pure (fun vs ts ls h ls2 h2 => ?_) rfl
  simp only [evO, e_mv, Bool.cond_eq_ite]
  (repeat' split) <;> first | rfl | simp_all
theorem loc_pick : ∀ x0 x1 x2 , Local call (.pick x0 x1 x2) := by
  intro x0 x1 x2
  refine local_pure (fun vs ts ls h ls2 h2 => ?_) rfl
  simp only [evO, e_pick, Bool.cond_eq_ite]
  (repeat' split) <;> first | rfl | simp_all
theorem loc_un : ∀ x0 x1 , Local call (.un x0 x1) := by
  intro x0 x1
  refine local_pure (fun vs ts ls h ls2 h2 => ?_) rfl
  simp only [evO, e_un, Bool.cond_eq_ite]
  (repeat' split) <;> first | rfl | simp_all
theorem loc_bin : ∀ x0 x1 x2 , Local call (.bin x0 x1 x2) := by
  intro x0 x1 x2
  refine local_pure (fun vs ts ls h ls2 h2 => ?_) rfl
  simp only [evO, e_bin, Bool.cond_eq_ite]
  (repeat' split) <;> first | rfl | simp_all
theorem loc_eqv : ∀ x0 x1 x2 x3 , Local call (.eqv x0 x1 x2 x3) := by
  intro x0 x1 x2 x3
  refine local_pure (fun vs ts ls h ls2 h2 => ?_) rfl
  simp only [evO, e_eqv, Bool.cond_eq_ite]
  (repeat' split) <;> first | rfl | simp_all
theorem loc_cvI : ∀ x0 x1 , Local call (.cvI x0 x1) := by
  intro x0 x1
  refine local_pure (fun vs ts ls h ls2 h2 => ?_) rfl
  simp only [evO, e_cvI, Bool.cond_eq_ite]
  (repeat' split) <;> first | rfl | simp_all
theorem loc_same : ∀ x0 , Local call (.same x0) := by
  intro x0
  refine local_pure (fun vs ts ls h ls2 h2 => ?_) rfl
  simp only [evO, e_same, Bool.cond_eq_ite]
  (repeat' split) <;> first | rfl | simp_all
theorem loc_i2s : ∀ x0 , Local call (.i2s x0) := by
  intro x0
  refine local_pure (fun vs ts ls h ls2 h2 => ?_) rfl
  simp only [evO, e_i2s, Bool.cond_eq_ite]
  (repeat' split) <;> first | rfl | simp_all
theorem loc_ext : ∀ x0 x1 , Local call (.ext x0 x1) := by
  intro x0 x1
  refine local_pure (fun vs ts ls h ls2 h2 => ?_) rfl
  simp only [evO, e_ext, Bool.cond_eq_ite]
  (repeat' split) <;> first | rfl | simp_all
theorem loc_fld : ∀ x0 x1 x2 x3 , Local call (.fld x0 x1 x2 x3) := by
  intro x0 x1 x2 x3
  refine local_pure (fun vs ts ls h ls2 h2 => ?_) rfl
  simp only [evO, e_fld, Bool.cond_eq_ite]
  (repeat' split) <;> first | rfl | simp_all
theorem loc_idx : ∀ x0 x1 x2 x3 x4 , Local call (.idx x0 x1 x2 x3 x4) := by
  intro x0 x1 x2 x3 x4
  refine local_pure (fun vs ts ls h ls2 h2 => ?_) rfl
  simp only [evO, e_idx, Bool.cond_eq_ite]
  (repeat' split) <;> first | rfl | simp_all
theorem loc_sidx : ∀ x0 x1 , Local call (.sidx x0 x1) := by
  intro x0 x1
  refine local_pure (fun vs ts ls h ls2 h2 => ?_) rfl
  simp only [evO, e_sidx, Bool.cond_eq_ite]
  (repeat' split) <;> first | rfl | simp_all
theorem loc_bld : ∀ x0 x1 , Local call (.bld x0 x1) := by
  intro x0 x1
  refine local_pure (fun vs ts ls h ls2 h2 => ?_) rfl
  simp only [evO, e_bld, Bool.cond_eq_ite]
  (repeat' split) <;> first | rfl | simp_all
theorem loc_lenS : ∀ x0 , Local call (.lenS x0) := by
  intro x0
  refine local_pure (fun vs ts ls h ls2 h2 => ?_) rfl
  simp only [evO, e_lenS, Bool.cond_eq_ite]
  (repeat' split) <;> first | rfl | simp_all
theorem loc_lenL : ∀ x0 , Local call (.lenL x0) := by
  intro x0
  refine local_pure (fun vs ts ls h ls2 h2 => ?_) rfl
  simp only [evO, e_lenL, Bool.cond_eq_ite]
  (repeat' split) <;> first | rfl | simp_all
theorem loc_lenA : ∀ x0 , Local call (.lenA x0) := by
  intro x0
  refine local_pure (fun vs ts ls h ls2 h2 => ?_) rfl
  simp only [evO, e_lenA, Bool.cond_eq_ite]
  (repeat' split) <;> first | rfl | simp_all
theorem loc_capL : ∀ x0 , Local call (.capL x0) := by
  intro x0
  refine local_pure (fun vs ts ls h ls2 h2 => ?_) rfl
  simp only [evO, e_capL, Bool.cond_eq_ite]
  (repeat' split) <;> first | rfl | simp_all
theorem loc_mnx : ∀ x0 x1 , Local call (.mnx x0 x1) := by
  intro x0 x1
  refine local_pure (fun vs ts ls h ls2 h2 => ?_) rfl
  simp only [evO, e_mnx, Bool.cond_eq_ite]
  (repeat' split) <;> first | rfl | simp_all
theorem loc_sub : ∀ x0 x1 x2 x3 x4 , Local call (.sub x0 x1 x2 x3 x4) := by
  intro x0 x1 x2 x3 x4
  refine local_pure (fun vs ts ls h ls2 h2 => ?_) rfl
  simp only [evO, e_sub, Bool.cond_eq_ite]
  (repeat' split) <;> first | rfl | simp_all
theorem loc_ssub : ∀ x0 x1 x2 , Local call (.ssub x0 x1 x2) := by
  intro x0 x1 x2
  refine local_pure (fun vs ts ls h ls2 h2 => ?_) rfl
  simp only [evO, e_ssub, Bool.cond_eq_ite]
  (repeat' split) <;> first | rfl | simp_all
theorem loc_nilc : ∀ x0 , Local call (.nilc x0) := by
  intro x0
  refine local_pure (fun vs ts ls h ls2 h2 => ?_) rfl
  simp only [evO, e_nilc, Bool.cond_eq_ite]
  (repeat' split) <;> first | rfl | simp_all
theorem loc_mkf : ∀ x0 x1 x2 , Local call (.mkf x0 x1 x2) := by
  intro x0 x1 x2
  refine local_pure (fun vs ts ls h ls2 h2 => ?_) rfl
  simp only [evO, e_mkf, Bool.cond_eq_ite]
  (repeat' split) <;> first | rfl | simp_all
theorem loc_mki : ∀ x0 x1 , Local call (.mki x0 x1) := by
  intro x0 x1
  refine local_pure (fun vs ts ls h ls2 h2 => ?_) rfl
  simp only [evO, e_mki, Bool.cond_eq_ite]
  (repeat' split) <;> first | rfl | simp_all
theorem loc_fa : ∀ x0 x1 , Local call (.fa x0 x1) := by
  intro x0 x1
  refine local_pure (fun vs ts ls h ls2 h2 => ?_) rfl
  simp only [evO, e_fa, Bool.cond_eq_ite]
  (repeat' split) <;> first | rfl | simp_all
theorem loc_ia : ∀ x0 x1 x2 , Local call (.ia x0 x1 x2) := by
  intro x0 x1 x2
  refine local_pure (fun vs ts ls h ls2 h2 => ?_) rfl
  simp only [evO, e_ia, Bool.cond_eq_ite]
  (repeat' split) <;> first | rfl | simp_all
theorem loc_iaA : ∀ x0 x1 x2 x3 , Local call (.iaA x0 x1 x2 x3) := by
  intro x0 x1 x2 x3
  refine local_pure (fun vs ts ls h ls2 h2 => ?_) rfl
  simp only [evO, e_iaA, Bool.cond_eq_ite]
  (repeat' split) <;> first | rfl | simp_all
theorem loc_usd : ∀ x0 , Local call (.usd x0) := by
  intro x0
  refine local_pure (fun vs ts ls h ls2 h2 => ?_) rfl
  simp only [evO, e_usd, Bool.cond_eq_ite]
  (repeat' split) <;> first | rfl | simp_all
theorem loc_uss : ∀ x0 x1 , Local call (.uss x0 x1) := by
  intro x0 x1
  refine local_pure (fun vs ts ls h ls2 h2 => ?_) rfl
  simp only [evO, e_uss, Bool.cond_eq_ite]
  (repeat' split) <;> first | rfl | simp_all
theorem loc_no : ∀ (_ : Unit), Local call (.no ) := by
  intro _
  refine local_pure (fun vs ts ls h ls2 h2 => ?_) rfl
  simp only [evO, e_no, Bool.cond_eq_ite]
  (repeat' split) <;> first | rfl | simp_all
theorem loc_b2s : ∀ x0, Local call (.b2s x0) := by
  intro x0
  refine local_read (fun vs ts ls h ls2 => ?_) rfl
  simp only [evO, e_b2s, Bool.cond_eq_ite]
  (repeat' split) <;> first | rfl | simp_all
theorem loc_lenM : ∀ x0, Local call (.lenM x0) := by
  intro x0
  refine local_read (fun vs ts ls h ls2 => ?_) rfl
  simp only [evO, e_lenM, Bool.cond_eq_ite]
  (repeat' split) <;> first | rfl | simp_all
theorem loc_asub : ∀ x0 x1 x2 x3 x4, Local call (.asub x0 x1 x2 x3 x4) := by
  intro x0 x1 x2 x3 x4
  refine local_read (fun vs ts ls h ls2 => ?_) rfl
  simp only [evO, e_asub, Bool.cond_eq_ite]
  (repeat' split) <;> first | rfl | simp_all
theorem loc_ld : ∀ x0 x1 x2, Local call (.ld x0 x1 x2) := by
  intro x0 x1 x2
  refine local_read (fun vs ts ls h ls2 => ?_) rfl
  simp only [evO, e_ld, Bool.cond_eq_ite]
  (repeat' split) <;> first | rfl | simp_all
theorem loc_look : ∀ x0 x1 x2 x3 x4, Local call (.look x0 x1 x2 x3 x4) := by
  intro x0 x1 x2 x3 x4
  refine local_read (fun vs ts ls h ls2 => ?_) rfl
  simp only [evO, e_look, Bool.cond_eq_ite]
  (repeat' split) <;> first | rfl | simp_all
theorem loc_s2b : ∀ x0, Local call (.s2b x0) := by
  intro x0
  refine local_heap (fun vs ts ls h ls2 => ?_) rfl
  simp only [evO, e_s2b, Bool.cond_eq_ite]
  (repeat' split) <;> first | rfl | simp_all
theorem loc_hal : ∀ x0, Local call (.hal x0) := by
  intro x0
  refine local_heap (fun vs ts ls h ls2 => ?_) rfl
  simp only [evO, e_hal, Bool.cond_eq_ite]
  (repeat' split) <;> first | rfl | simp_all
theorem loc_hbx : ∀ x0, Local call (.hbx x0) := by
  intro x0
  refine local_heap (fun vs ts ls h ls2 => ?_) rfl
  simp only [evO, e_hbx, Bool.cond_eq_ite]
  (repeat' split) <;> first | rfl | simp_all
theorem loc_hbs : ∀ x0 x1 x2 x3, Local call (.hbs x0 x1 x2 x3) := by
  intro x0 x1 x2 x3
  refine local_heap (fun vs ts ls h ls2 => ?_) rfl
  simp only [evO, e_hbs, Bool.cond_eq_ite]
  (repeat' split) <;> first | rfl | simp_all
theorem loc_mks : ∀ x0 x1 x2 x3 x4, Local call (.mks x0 x1 x2 x3 x4) := by
  intro x0 x1 x2 x3 x4
  refine local_heap (fun vs ts ls h ls2 => ?_) rfl
  simp only [evO, e_mks, Bool.cond_eq_ite]
  (repeat' split) <;> first | rfl | simp_all
theorem loc_st : ∀ x0 x1 x2, Local call (.st x0 x1 x2) := by
  intro x0 x1 x2
  refine local_heap (fun vs ts ls h ls2 => ?_) rfl
  simp only [evO, e_st, Bool.cond_eq_ite]
  (repeat' split) <;> first | rfl | simp_all
theorem loc_app : ∀ x0 x1 x2 x3, Local call (.app x0 x1 x2 x3) := by
  intro x0 x1 x2 x3
  refine local_heap (fun vs ts ls h ls2 => ?_) rfl
  simp only [evO, e_app, Bool.cond_eq_ite]
  (repeat' split) <;> first | rfl | simp_all
theorem loc_appS : ∀ x0 x1 x2, Local call (.appS x0 x1 x2) := by
  intro x0 x1 x2
  refine local_heap (fun vs ts ls h ls2 => ?_) rfl
  simp only [evO, e_appS, Bool.cond_eq_ite]
  (repeat' split) <;> first | rfl | simp_all
theorem loc_appM : ∀ x0 x1 x2 x3 x4, Local call (.appM x0 x1 x2 x3 x4) := by
  intro x0 x1 x2 x3 x4
  refine local_heap (fun vs ts ls h ls2 => ?_) rfl
  simp only [evO, e_appM, Bool.cond_eq_ite]
  (repeat' split) <;> first | rfl | simp_all
theorem loc_cpy : ∀ x0 x1 x2, Local call (.cpy x0 x1 x2) := by
  intro x0 x1 x2
  refine local_heap (fun vs ts ls h ls2 => ?_) rfl
  simp only [evO, e_cpy, Bool.cond_eq_ite]
  (repeat' split) <;> first | rfl | simp_all
theorem loc_cpyS : ∀ x0 x1, Local call (.cpyS x0 x1) := by
  intro x0 x1
  refine local_heap (fun vs ts ls h ls2 => ?_) rfl
  simp only [evO, e_cpyS, Bool.cond_eq_ite]
  (repeat' split) <;> first | rfl | simp_all
theorem loc_clr : ∀ x0 x1 x2, Local call (.clr x0 x1 x2) := by
  intro x0 x1 x2
  refine local_heap (fun vs ts ls h ls2 => ?_) rfl
  simp only [evO, e_clr, Bool.cond_eq_ite]
  (repeat' split) <;> first | rfl | simp_all
theorem loc_mkm : ∀ (_ : Unit), Local call (.mkm ) := by
  intro _
  refine local_heap (fun vs ts ls h ls2 => ?_) rfl
  simp only [evO, e_mkm, Bool.cond_eq_ite]
  (repeat' split) <;> first | rfl | simp_all
theorem loc_mup : ∀ x0 x1 x2 x3, Local call (.mup x0 x1 x2 x3) := by
  intro x0 x1 x2 x3
  refine local_heap (fun vs ts ls h ls2 => ?_) rfl
  simp only [evO, e_mup, Bool.cond_eq_ite]
  (repeat' split) <;> first | rfl | simp_all
theorem loc_mdel : ∀ x0 x1 x2, Local call (.mdel x0 x1 x2) := by
  intro x0 x1 x2
  refine local_heap (fun vs ts ls h ls2 => ?_) rfl
  simp only [evO, e_mdel, Bool.cond_eq_ite]
  (repeat' split) <;> first | rfl | simp_all
theorem loc_mclr : ∀ x0, Local call (.mclr x0) := by
  intro x0
  refine local_heap (fun vs ts ls h ls2 => ?_) rfl
  simp only [evO, e_mclr, Bool.cond_eq_ite]
  (repeat' split) <;> first | rfl | simp_all
theorem loc_call : ∀ x0 x1, Local call (.call x0 x1) := by
  intro x0 x1
  refine local_heap (fun vs ts ls h ls2 => ?_) rfl
  simp only [evO, e_call, Bool.cond_eq_ite]
  (repeat' split) <;> first | rfl | simp_all
theorem loc_callv : ∀ x0 x1, Local call (.callv x0 x1) := by
  intro x0 x1
  refine local_heap (fun vs ts ls h ls2 => ?_) rfl
  simp only [evO, e_callv, Bool.cond_eq_ite]
  (repeat' split) <;> first | rfl | simp_all
theorem loc_lfa : ∀ x0 x1 x2, Local call (.lfa x0 x1 x2) := by
  intro x0 x1 x2
  refine local_slot x0 (fun vs ts ls h ls2 h2 hs => ?_) rfl
  simp only [evO, e_lfa, hs, Bool.cond_eq_ite]
  (repeat' split) <;> first | rfl | simp_all
theorem loc_lia : ∀ x0 x1 x2 x3 x4, Local call (.lia x0 x1 x2 x3 x4) := by
  intro x0 x1 x2 x3 x4
  refine local_slot x0 (fun vs ts ls h ls2 h2 hs => ?_) rfl
  simp only [evO, e_lia, hs, Bool.cond_eq_ite]
  (repeat' split) <;> first | rfl | simp_all
theorem loc_lld : ∀ x0 x1 x2 x3, Local call (.lld x0 x1 x2 x3) := by
  intro x0 x1 x2 x3
  refine local_slot x0 (fun vs ts ls h ls2 h2 hs => ?_) rfl
  simp only [evO, e_lld, hs, Bool.cond_eq_ite]
  (repeat' split) <;> first | rfl | simp_all
theorem loc_lsub : ∀ x0 x1 x2 x3 x4 x5, Local call (.lsub x0 x1 x2 x3 x4 x5) := by
  intro x0 x1 x2 x3 x4 x5
  refine local_slot x0 (fun vs ts ls h ls2 h2 hs => ?_) rfl
  simp only [evO, e_lsub, hs, Bool.cond_eq_ite]
  (repeat' split) <;> first | rfl | simp_all
theorem loc_lb2s : ∀ x0 x1, Local call (.lb2s x0 x1) := by
  intro x0 x1
  refine local_slot x0 (fun vs ts ls h ls2 h2 hs => ?_) rfl
  simp only [evO, e_lb2s, hs, Bool.cond_eq_ite]
  (repeat' split) <;> first | rfl | simp_all
theorem loc_appL : ∀ x0 x1 x2 x3 x4, Local call (.appL x0 x1 x2 x3 x4) := by
  intro x0 x1 x2 x3 x4
  refine local_slotH x1 (fun vs ts ls h ls2 hs => ?_) rfl
  simp only [evO, e_appL, hs, Bool.cond_eq_ite]
  (repeat' split) <;> first | rfl | simp_all
theorem loc_lal : ∀ x0 x1, Local call (.lal x0 x1) := by
  intro x0 x1
  exact local_slotW x0 (fun _ _ _ => some (undef, x1)) (fun vs ts ls h => rfl) rfl
theorem loc_lbx : ∀ x0 x1, Local call (.lbx x0 x1) := by
  intro x0 x1
  refine local_slotW x0 (fun vs ts _ => match (getX vs ts x1).cs? with | some cs => some (undef, cs) | none => none) (fun vs ts ls h => ?_) rfl
  simp only [evO, e_lbx]
  (repeat' split) <;> first | rfl | simp_all [Rs.ofS]
theorem loc_lbs : ∀ x0 x1 x2 x3 x4, Local call (.lbs x0 x1 x2 x3 x4) := by
  intro x0 x1 x2 x3 x4
  refine local_slotW x0 (fun vs ts _ => match fillAll vs ts (vrep x1 x3) x4 with | some cs => bif Nat.beq (vlen cs 0) (x1 * x2) then some (.lsl 0 x1, cs) else none | none => none) (fun vs ts ls h => ?_) rfl
  simp only [evO, e_lbs, Bool.cond_eq_ite]
  (repeat' split) <;> first | rfl | simp_all
theorem loc_lst : ∀ x0 x1 x2 x3, Local call (.lst x0 x1 x2 x3) := by
  intro x0 x1 x2 x3
  refine local_slotW x0 (fun vs ts sl => match place ts x1, sl with
    | some p, some cs => match (getX vs ts x2).cs? with
      | some new => bif Nat.beq (vlen new 0) x3 then (match wrt cs p new with | some cs => some (undef, cs) | none => none) else none
      | none => none
    | _, _ => none) (fun vs ts ls h => ?_) rfl
  simp only [evO, e_lst, Bool.cond_eq_ite]
  (repeat' split) <;> first | rfl | simp_all
theorem evO_local : ∀ o : O, Local call o
  | .mv x0 => loc_mv x0
  | .pick x0 x1 x2 => loc_pick x0 x1 x2
  | .un x0 x1 => loc_un x0 x1
  | .bin x0 x1 x2 => loc_bin x0 x1 x2
  | .eqv x0 x1 x2 x3 => loc_eqv x0 x1 x2 x3
  | .cvI x0 x1 => loc_cvI x0 x1
  | .same x0 => loc_same x0
  | .i2s x0 => loc_i2s x0
  | .ext x0 x1 => loc_ext x0 x1
  | .fld x0 x1 x2 x3 => loc_fld x0 x1 x2 x3
  | .idx x0 x1 x2 x3 x4 => loc_idx x0 x1 x2 x3 x4
  | .sidx x0 x1 => loc_sidx x0 x1
  | .bld x0 x1 => loc_bld x0 x1
  | .lenS x0 => loc_lenS x0
  | .lenL x0 => loc_lenL x0
  | .lenA x0 => loc_lenA x0
  | .capL x0 => loc_capL x0
  | .mnx x0 x1 => loc_mnx x0 x1
  | .sub x0 x1 x2 x3 x4 => loc_sub x0 x1 x2 x3 x4
  | .ssub x0 x1 x2 => loc_ssub x0 x1 x2
  | .nilc x0 => loc_nilc x0
  | .mkf x0 x1 x2 => loc_mkf x0 x1 x2
  | .mki x0 x1 => loc_mki x0 x1
  | .fa x0 x1 => loc_fa x0 x1
  | .ia x0 x1 x2 => loc_ia x0 x1 x2
  | .iaA x0 x1 x2 x3 => loc_iaA x0 x1 x2 x3
  | .usd x0 => loc_usd x0
  | .uss x0 x1 => loc_uss x0 x1
  | .no  => loc_no ()
  | .b2s x0 => loc_b2s x0
  | .lenM x0 => loc_lenM x0
  | .asub x0 x1 x2 x3 x4 => loc_asub x0 x1 x2 x3 x4
  | .ld x0 x1 x2 => loc_ld x0 x1 x2
  | .look x0 x1 x2 x3 x4 => loc_look x0 x1 x2 x3 x4
  | .s2b x0 => loc_s2b x0
  | .hal x0 => loc_hal x0
  | .hbx x0 => loc_hbx x0
  | .hbs x0 x1 x2 x3 => loc_hbs x0 x1 x2 x3
  | .mks x0 x1 x2 x3 x4 => loc_mks x0 x1 x2 x3 x4
  | .st x0 x1 x2 => loc_st x0 x1 x2
  | .app x0 x1 x2 x3 => loc_app x0 x1 x2 x3
  | .appS x0 x1 x2 => loc_appS x0 x1 x2
  | .appM x0 x1 x2 x3 x4 => loc_appM x0 x1 x2 x3 x4
  | .cpy x0 x1 x2 => loc_cpy x0 x1 x2
  | .cpyS x0 x1 => loc_cpyS x0 x1
  | .clr x0 x1 x2 => loc_clr x0 x1 x2
  | .mkm  => loc_mkm ()
  | .mup x0 x1 x2 x3 => loc_mup x0 x1 x2 x3
  | .mdel x0 x1 x2 => loc_mdel x0 x1 x2
  | .mclr x0 => loc_mclr x0
  | .call x0 x1 => loc_call x0 x1
  | .callv x0 x1 => loc_callv x0 x1
  | .lfa x0 x1 x2 => loc_lfa x0 x1 x2
  | .lia x0 x1 x2 x3 x4 => loc_lia x0 x1 x2 x3 x4
  | .lld x0 x1 x2 x3 => loc_lld x0 x1 x2 x3
  | .lsub x0 x1 x2 x3 x4 x5 => loc_lsub x0 x1 x2 x3 x4 x5
  | .lb2s x0 x1 => loc_lb2s x0 x1
  | .lal x0 x1 => loc_lal x0 x1
  | .lbx x0 x1 => loc_lbx x0 x1
  | .lbs x0 x1 x2 x3 x4 => loc_lbs x0 x1 x2 x3 x4
  | .lst x0 x1 x2 x3 => loc_lst x0 x1 x2 x3
  | .appL x0 x1 x2 x3 x4 => loc_appL x0 x1 x2 x3 x4
end Am
namespace Am
open Go
variable {P : Program} {T : TT} {call : CallT} {μ : Mp}

def stF (tr : List St) (e : St) (i : Nat) : St := match stAt tr i with
  | some s => s
  | none => e
structure StepR (call : CallT) (ro : RO) (s s' : St) : Prop where
  ts : s'.ts = s.v :: s.ts
  vs : s'.vs = setD s.vs ro.d s.v
  ev : (wantedG s.ts ro.g = true ∧ evO call s.vs s.ts s.ls s.h ro.o = .ok s.v s'.ls s'.h) ∨ (wantedG s.ts ro.g = false ∧ s.v = undef ∧ s'.ls = s.ls ∧ s'.h = s.h)
theorem TR.cons_ok {s : St} {t : TR} {tr : List St} {vs ts : List V} {ls : Ls} {h : H} (e : TR.cons s t = .ok tr vs ts ls h) : ∃ tr', t = .ok tr' vs ts ls h ∧ tr = s :: tr' := by
  cases t with
  | no => simp [TR.cons] at e
  | ok tr' a b c d => simp [TR.cons] at e; obtain ⟨rfl, rfl, rfl, rfl, rfl⟩ := e; exact ⟨_, rfl, rfl⟩
theorem evTr_spec : ∀ {l : List RO} {tr : List St} {vs ts : List V} {ls : Ls} {h : H} {e : St}, evTr call l vs ts ls h = .ok tr e.vs e.ts e.ls e.h →
    (stF tr e 0).vs = vs ∧ (stF tr e 0).ts = ts ∧ (stF tr e 0).ls = ls ∧ (stF tr e 0).h = h ∧ (∀ i ro, roAt l i = some ro → StepR call ro (stF tr e i) (stF tr e (i + 1))) ∧ (∀ i, roAt l i = none → stF tr e i = e) ∧
    ∀ i ro, roAt l i = some ro → stAt tr i = some (stF tr e i) := by
  intro l
  induction l with
  | nil =>
    intro tr vs ts ls h e he
    simp only [evTr, TR.ok.injEq] at he
    obtain ⟨rfl, h1, h2, h3, h4⟩ := he
    exact ⟨h1.symm, h2.symm, h3.symm, h4.symm, by simp [roAt], fun i _ => rfl, by simp [roAt]⟩
  | cons o l ih =>
    intro tr vs ts ls h e he
    simp only [evTr] at he
    have go : ∀ {v : V} {ls' : Ls} {h' : H}, TR.cons ⟨vs, ts, ls, h, v⟩ (evTr call l (setD vs o.d v) (v :: ts) ls' h') = .ok tr e.vs e.ts e.ls e.h →
        ((wantedG ts o.g = true ∧ evO call vs ts ls h o.o = .ok v ls' h') ∨ (wantedG ts o.g = false ∧ v = undef ∧ ls' = ls ∧ h' = h)) →
        (stF tr e 0).vs = vs ∧ (stF tr e 0).ts = ts ∧ (stF tr e 0).ls = ls ∧ (stF tr e 0).h = h ∧ (∀ i ro, roAt (o :: l) i = some ro → StepR call ro (stF tr e i) (stF tr e (i + 1))) ∧ (∀ i, roAt (o :: l) i = none → stF tr e i = e) ∧
        ∀ i ro, roAt (o :: l) i = some ro → stAt tr i = some (stF tr e i) := by
      intro v ls' h' hc hev
      obtain ⟨tr', h1, rfl⟩ := TR.cons_ok hc
      obtain ⟨a1, a2, a3, a4, a5, a6, a7⟩ := ih h1
      refine ⟨rfl, rfl, rfl, rfl, fun i ro hi => ?_, fun i hi => ?_, fun i ro hi => ?_⟩
      · cases i with
        | zero =>
          simp [roAt] at hi
          subst hi
          have e1 : stF (⟨vs, ts, ls, h, v⟩ :: tr') e (0 + 1) = stF tr' e 0 := rfl
          rw [e1]
          refine ⟨a2, a1, ?_⟩
          rw [a3, a4]
          exact hev
        | succ i => exact a5 i ro hi
      · cases i with
        | zero => simp [roAt] at hi
        | succ i => exact a6 i hi
      · cases i with
        | zero => rfl
        | succ i => exact a7 i ro hi
    cases hw : wantedG ts o.g with
    | true =>
      rw [hw] at he
      simp only [cond_true] at he
      split at he
      · rename_i v ls' h' hev
        exact go he (.inl ⟨hw, hev⟩)
      · cases he
    | false =>
      rw [hw] at he
      exact go he (.inr ⟨hw, rfl, rfl, rfl⟩)
theorem evTr_of : ∀ {l : List RO} {vs ts : List V} {ls : Ls} {h : H} {ex : Ex} {vs' ts' : List V} {ls' : Ls} {h' : H}, evOps call l vs ts ls h = .ok ex vs' ts' ls' h' → (∃ tr, evTr call l vs ts ls h = .ok tr vs' ts' ls' h') ∧ ex = .n := by
  intro l
  induction l with
  | nil => intro vs ts ls h ex vs' ts' ls' h' e; simp [evOps] at e; obtain ⟨rfl, rfl, rfl, rfl, rfl⟩ := e; exact ⟨⟨[], rfl⟩, rfl⟩
  | cons o l ih =>
    intro vs ts ls h ex vs' ts' ls' h' e
    simp only [evOps] at e
    simp only [evTr]
    cases hw : wantedG ts o.g with
    | true =>
      rw [hw] at e
      simp only [cond_true] at e ⊢
      split at e
      · rename_i v ls2 h2 hev
        obtain ⟨⟨tr, h1⟩, h3⟩ := ih e
        exact ⟨⟨⟨vs, ts, ls, h, v⟩ :: tr, by simp only [h1, TR.cons]⟩, h3⟩
      · cases e
    | false =>
      rw [hw] at e
      simp only [cond_false] at e ⊢
      obtain ⟨⟨tr, h1⟩, h3⟩ := ih e
      exact ⟨⟨⟨vs, ts, ls, h, undef⟩ :: tr, by simp only [h1, TR.cons]⟩, h3⟩
theorem heapAt_eq (tr : List St) (e : St) (i : Nat) : heapAt tr e.h i = (stF tr e i).h := by
  induction tr generalizing i with
  | nil => rfl
  | cons s tr ih => cases i with
    | zero => rfl
    | succ i => exact ih i

/-! Versions -/
def ext (L : Nat → Bool) (i : Nat) : Nat → Bool := fun k => L k || decide (k = i)
def pre (i : Nat) : Nat → Bool := fun k => decide (k < i)
theorem pre_succ (i : Nat) : pre (i + 1) = ext (pre i) i := by
  funext k
  simp only [pre, ext]
  by_cases h : k < i
  · simp [h]; omega
  · by_cases h2 : k = i
    · simp [h2]
    · simp [h, h2]; omega
theorem ver_ext {L w : Nat → Bool} {n i : Nat} (hi : i < n) (ha : w i = true → ∀ k < n, i < k → L k = true → w k = false) :
    lastP (fun k => ext L i k && w k) n = if w i then some i else lastP (fun k => L k && w k) n := by
  by_cases hw : w i = true
  · rw [if_pos hw]
    refine lastP_is hi (by simp [ext, hw]) fun j hj hjn => ?_
    simp only [ext]
    have : decide (j = i) = false := by simp; omega
    rw [this, Bool.or_false]
    cases hL : L j with
    | false => rfl
    | true => simp [ha hw j hjn hj hL]
  · rw [if_neg hw]
    refine lastP_congr fun k hk => ?_
    simp only [ext]
    by_cases e : k = i
    · subst e
      have : w k = false := by simpa using hw
      simp [this]
    · simp [e]
def wT (ops : Array Oper) (t k : Nat) : Bool := match ops[k]? with
  | some o => decide (o.dst = some t)
  | none => false
def wS (l : List RO) (s k : Nat) : Bool := decide ((fpAt l k).sl = some s) && (fpAt l k).sw
def wH (l : List RO) (k : Nat) : Bool := (fpAt l k).wh
def vV (ops : Array Oper) (tr : List St) (e : St) (L : Nat → Bool) (t j : Nat) : V := match lastP (fun k => L k && wT ops t k) ops.size with
  | none => lget (stF tr e 0).vs j
  | some k => (stF tr e k).v
def hV (ops : Array Oper) (l : List RO) (tr : List St) (e : St) (L : Nat → Bool) : H := match lastP (fun k => L k && wH l k) ops.size with
  | none => (stF tr e 0).h
  | some k => (stF tr e (k + 1)).h
def lV (ops : Array Oper) (l : List RO) (tr : List St) (e : St) (L : Nat → Bool) (s : Nat) : Option (List V) := match lastP (fun k => L k && wS l s k) ops.size with
  | none => slot (stF tr e 0).ls s
  | some k => slot (stF tr e (k + 1)).ls s
structure Reg (T : TT) (call : CallT) (kd : List Kd) (ops : Array Oper) (l : List RO) (tr : List St) (e : St) : Prop where
  comp : ∃ c', compR T kd ops.toList 0 ⟨[], []⟩ = some (l, c')
  st : ∀ i ro, roAt l i = some ro → StepR call ro (stF tr e i) (stF tr e (i + 1))
  ts0 : (stF tr e 0).ts = []
  hv : ∀ (t j : Nat), kd[t]? = some (Kd.v j) → j < (stF tr e 0).vs.length
  injV : ∀ (t t' j : Nat), kd[t]? = some (Kd.v j) → kd[t']? = some (Kd.v j) → t = t'
  injL : ∀ (t t' s : Nat) (a b : Bool), slotOf kd (some t) = some (s, a) → slotOf kd (some t') = some (s, b) → t = t'
section
variable {kd : List Kd} {ops : Array Oper} {l : List RO} {tr : List St} {e : St}
/-- the operation at a place -/
theorem Reg.at (R : Reg T call kd ops l tr e) {i : Nat} {o : Oper} (hi : ops[i]? = some o) :
    ∃ g d, roAt l i = some ⟨g, d, (compO T kd (cxAt T kd ops.toList ⟨[], []⟩ i) o).1⟩ ∧ grd i (cxAt T kd ops.toList ⟨[], []⟩ i) o.guard = some g ∧ dstV kd o.dst = some d ∧ dstOk kd o = true ∧
      rtOk d (compO T kd (cxAt T kd ops.toList ⟨[], []⟩ i) o).2 = true ∧ fpAt l i = fp (compO T kd (cxAt T kd ops.toList ⟨[], []⟩ i) o).1 := by
  obtain ⟨c', hc⟩ := R.comp
  obtain ⟨g, d, h1, h2, h3, h4, h5⟩ := compR_at hc i o (by simpa using hi)
  exact ⟨g, d, h1, by simpa using h2, h3, h4, h5, by simp [fpAt, h1]⟩
theorem lset_len (l : List V) (j : Nat) (v : V) : (lset l j v).length = l.length := by simp
theorem lset_get (l : List V) (j i : Nat) (v : V) (h : j < l.length) : lget (lset l j v) i = if i = j then v else lget l i := by
  rw [lget_eq, lget_eq]
  simp only [lset_eq]
  by_cases e : i = j
  · subst e; simp [h]
  · rw [if_neg e, List.getElem?_set_ne (fun h => e h.symm)]
theorem Reg.facts (R : Reg T call kd ops l tr e) : ∀ i, i ≤ ops.size →
    (stF tr e i).vs.length = (stF tr e 0).vs.length ∧ (∀ (t j : Nat), kd[t]? = some (Kd.v j) → lget (stF tr e i).vs j = vV ops tr e (pre i) t j) ∧
    (stF tr e i).h = hV ops l tr e (pre i) ∧ (∀ s, slot (stF tr e i).ls s = lV ops l tr e (pre i) s) ∧ (stF tr e i).ls.length = (stF tr e 0).ls.length ∧
    (stF tr e i).ts.length = i ∧ ∀ k < i, lget (stF tr e i).ts (i - 1 - k) = (stF tr e k).v := by
  intro i
  induction i with
  | zero =>
    intro _
    have np : ∀ w : Nat → Bool, lastP (fun k => pre 0 k && w k) ops.size = none := fun w => lastP_not fun k _ => by simp [pre]
    refine ⟨rfl, fun t j _ => ?_, ?_, fun s => ?_, rfl, by simp [R.ts0], fun k hk => by omega⟩
    · simp only [vV, np]
    · simp only [hV, np]
    · simp only [lV, np]
  | succ i ih =>
    intro hi
    obtain ⟨f1, f2, f3, f4, f5, f6, f7⟩ := ih (by omega)
    have hin : i < ops.size := by omega
    obtain ⟨o, ho⟩ : ∃ o, ops[i]? = some o := ⟨ops[i], by simp [hin]⟩
    obtain ⟨g, d, hro, hg, hd, hok, hrt, hfp⟩ := R.at ho
    have hst := R.st i _ hro
    have after : ∀ w : Nat → Bool, w i = true → ∀ k < ops.size, i < k → pre i k = true → w k = false := by
      intro w _ k _ h1 h2
      simp [pre] at h2
      omega
    have hvlen : (stF tr e (i + 1)).vs.length = (stF tr e 0).vs.length := by
      rw [hst.vs, ← f1]
      cases d with
      | none => rfl
      | some d => simp only [setD]; exact lset_len _ _ _
    have hloc : (stF tr e (i + 1)).ls.length = (stF tr e i).ls.length ∧ ((fpAt l i).wh = false → (stF tr e (i + 1)).h = (stF tr e i).h) ∧ ∀ s, wS l s i = false → slot (stF tr e (i + 1)).ls s = slot (stF tr e i).ls s := by
      rcases hst.ev with ⟨_, h2⟩ | ⟨_, _, h3, h4⟩
      · obtain ⟨a, b, c, _⟩ := evO_local _ _ _ _ _ _ _ _ h2
        rw [hfp]
        refine ⟨a, b, fun s hs => c s fun hh => ?_⟩
        simp only [wS, hfp] at hs
        simp [hh.1, hh.2] at hs
      · rw [h3, h4]; exact ⟨rfl, fun _ => rfl, fun _ _ => rfl⟩
    refine ⟨hvlen, fun t j hj => ?_, ?_, fun s => ?_, by rw [hloc.1, f5], by rw [hst.ts]; simp [f6], fun k hk => ?_⟩
    · unfold vV
      rw [pre_succ, ver_ext hin (after _)]
      have hjl := R.hv t j hj
      rw [hst.vs]
      by_cases hw : wT ops t i = true
      · rw [if_pos hw]
        simp only [wT, ho, decide_eq_true_eq] at hw
        have hdj : d = some j := by
          rw [hw] at hd
          simp only [dstV, hj, Option.some.injEq] at hd
          exact hd.symm
        subst hdj
        simp only [setD]
        rw [lset_get _ _ _ _ (by rw [f1]; exact hjl), if_pos rfl]
      · rw [if_neg hw]
        have : lget (setD (stF tr e i).vs d (stF tr e i).v) j = lget (stF tr e i).vs j := by
          cases d with
          | none => rfl
          | some d =>
            simp only [setD]
            by_cases hdl : d < (stF tr e i).vs.length
            · rw [lset_get _ _ _ _ hdl]
              split
              · rename_i e1
                subst e1
                exfalso
                apply hw
                simp only [wT, ho, decide_eq_true_eq]
                cases hdst : o.dst with
                | none => rw [hdst] at hd; simp [dstV] at hd
                | some u =>
                  rw [hdst] at hd
                  simp only [dstV] at hd
                  split at hd
                  · rename_i j' hj'
                    simp only [Option.some.injEq] at hd
                    subst hd
                    rw [R.injV u t _ hj' hj]
                  · simp at hd
                  · cases hd
              · rfl
            · have : lset (stF tr e i).vs d (stF tr e i).v = (stF tr e i).vs := by
                simp only [lset_eq]
                exact List.set_eq_of_length_le (by omega)
              rw [this]
        rw [this]
        exact f2 t j hj
    · unfold hV
      rw [pre_succ, ver_ext hin (after _)]
      by_cases hw : wH l i = true
      · rw [if_pos hw]
      · rw [if_neg hw]
        rw [hloc.2.1 (by simpa [wH] using hw)]
        exact f3
    · unfold lV
      rw [pre_succ, ver_ext hin (after _)]
      by_cases hw : wS l s i = true
      · rw [if_pos hw]
      · rw [if_neg hw]
        rw [hloc.2.2 s (by simpa using hw)]
        exact f4 s
    · rw [hst.ts]
      by_cases e1 : k = i
      · subst e1
        simp [lget]
      · rw [show i + 1 - 1 - k = (i - 1 - k) + 1 by omega]
        simp only [lget]
        exact f7 k (by omega)
end
end Am
namespace Am
open Go
variable {P : Program} {T : TT} {call : CallT} {μ : Mp}

structure CP (kd : List Kd) (c : Ctx) (dst : Option Nat) (x : O × Rt) : Prop where
  rt : ∀ s b, x.2 = some (s, b) → (fp x.1).sl = some s
  bx : ∀ s, boxed x.1 = some s → slotOf kd dst = some (s, false)
  ly : ∀ s, lays x.1 = some s → (∃ b, slotOf kd dst = some (s, b)) ∧ freeS s c.rt = true
theorem compO_cp (kd : List Kd) (c : Ctx) (o : Oper) : CP kd c o.dst (compO T kd c o) := by
  obtain ⟨d, op, ty, pos, af, g⟩ := o
  have no : CP kd c d (.no, none) := ⟨by simp, by simp [boxed], by simp [lays]⟩
  cases op
  case call cl =>
    obtain ⟨cal, args, at_⟩ := cl
    simp only [compO]
    have : ∀ o, callO T kd c ⟨cal, args, at_⟩ = o → boxed o = none ∧ lays o = none := by
      intro o h
      unfold callO at h
      simp only [Bool.cond_eq_ite] at h
      (repeat' split at h) <;> subst h <;> exact ⟨rfl, rfl⟩
    obtain ⟨h1, h2⟩ := this _ rfl
    exact ⟨by simp, by simp [h1], by simp [h2]⟩
  case convert src dst x =>
    simp only [compO]
    have : ∀ o, convO T src dst kd c x = o → boxed o = none ∧ lays o = none := by
      intro o h
      unfold convO at h
      simp only [Bool.cond_eq_ite] at h
      (repeat' split at h) <;> subst h <;> exact ⟨rfl, rfl⟩
    obtain ⟨h1, h2⟩ := this _ rfl
    exact ⟨by simp, by simp [h1], by simp [h2]⟩
  case binOp op t x y t' =>
    simp only [compO]
    have : ∀ q a b, boxed (eqO op q a b) = none ∧ lays (eqO op q a b) = none := by
      intro q a b
      unfold eqO
      split <;> exact ⟨rfl, rfl⟩
    repeat' split
    all_goals first
      | exact no
      | (refine ⟨?_, ?_, ?_⟩ <;> simp [this]; done)
      | (refine ⟨?_, ?_, ?_⟩ <;> simp [boxed, lays]; done)
  all_goals
    simp only [compO, o?, Bool.cond_eq_ite]
    repeat' split
    all_goals first
      | exact no
      | (refine ⟨?_, ?_, ?_⟩ <;> simp_all [fp, boxed, lays]; done)
theorem lays_fp {o : O} {s : Nat} (h : lays o = some s) : (fp o).sl = some s ∧ (fp o).sw = true := by
  cases o <;> simp_all [lays, fp]
theorem slot_before {o : O} {vs ts : List V} {ls ls' : Ls} {h h' : H} {v : V} (he : evO call vs ts ls h o = .ok v ls' h') {s : Nat} (hl : lays o ≠ some s) {cs' : List V} (hs : slot ls' s = some cs') : ∃ cs, slot ls s = some cs := by
  obtain ⟨_, _, c, _⟩ := evO_local _ _ _ _ _ _ _ _ he
  by_cases hw : (fp o).sl = some s ∧ (fp o).sw = true
  · cases o <;> simp_all [fp, lays]
    rename_i s' d x sz
    obtain rfl := hw
    simp only [evO, e_lst] at he
    split at he
    · rename_i p cs _ h2; exact ⟨cs, h2⟩
    · cases he
  · exact ⟨cs', by rw [← c s hw]; exact hs⟩
/-- an operation that is evaluated into a local box's name lays it -/
theorem dst_boxed {kd : List Kd} {c : Ctx} {o : Oper} {s : Nat} (hok : dstOk kd o = true) (hs : slotOf kd o.dst = some (s, false)) : o.guard = none ∧ ((compO T kd c o).1 = .no ∨ boxed (compO T kd c o).1 = some s) := by
  obtain ⟨d, op, ty, pos, af, g⟩ := o
  simp only [dstOk, hs, Bool.and_eq_true, Option.isNone_iff_eq_none] at hok
  refine ⟨hok.2, ?_⟩
  cases op <;> simp at hok <;> simp only [compO, o?, hs, Bool.cond_eq_ite] <;> (repeat' split) <;> simp_all [boxed]
/-! The state at any time of a region -/
def Cf (ops : Array Oper) (x y : Oper) (fx fy : Fp) : Prop :=
  (∃ d, x.dst = some d ∧ (d ∈ y.looksAt ops ∨ y.dst = some d)) ∨ (∃ d, y.dst = some d ∧ d ∈ x.looksAt ops) ∨
  (∃ s, fx.sl = some s ∧ fy.sl = some s ∧ (fx.sw = true ∨ fy.sw = true)) ∨ (fx.wh = true ∧ fy.wh = true)
section
variable {kd : List Kd} {ops : Array Oper} {l : List RO} {tr : List St} {e : St}
def Good (ops : Array Oper) (l : List RO) (L : Nat → Bool) (i : Nat) : Prop :=
  ∀ k < ops.size, k ≠ i → ∀ x y, ops[k]? = some x → ops[i]? = some y → Cf ops x y (fpAt l k) (fpAt l i) → L k = decide (k < i)
abbrev cxI (T : TT) (kd : List Kd) (ops : Array Oper) (i : Nat) : Ctx := cxAt T kd ops.toList ⟨[], []⟩ i
structure Body (T : TT) (kd : List Kd) (ops : Array Oper) (tr : List St) (e : St) (μ : Mp) (κ : Lm) (ls : Ls) (L : Nat → Bool) (a : Act) : Prop where
  vars : ∀ (t j : Nat), kd[t]? = some (Kd.v j) → VRel μ (vV ops tr e L t j) (a.tmps.getD t Go.undef)
  locs : ∀ (t s : Nat) cs, kd[t]? = some (Kd.l s) → slot ls s = some cs → ∃ c, κ s = some c ∧ a.tmps.getD t Go.undef = .pointer (some ⟨c, 0, none⟩)
  tmps : ∀ (k t : Nat) o, L k = true → ops[k]? = some o → o.dst = some t → dstT kd (some t) = some t → (∀ k' < ops.size, k < k' → L k' = true → wT ops t k' = false) →
    RR μ κ (compO T kd (cxI T kd ops k) o).2 none (stF tr e k).v (a.tmps.getD t Go.undef)
structure Inv (T : TT) (kd : List Kd) (ops : Array Oper) (l : List RO) (tr : List St) (e : St) (N : Nat) (μ0 : Mp) (h0 : H) (w0 : World) (w₀ : Nat) (L : Nat → Bool) (a : Act) (w : World) : Prop where
  ex : ∃ μ κ ls, HRel μ (hV ops l tr e L) w ∧ LRel μ κ ls (hV ops l tr e L) w w₀ ∧ w₀ ≤ w.heap.size ∧ FrW w₀ μ0 h0 w0 μ (hV ops l tr e L) w ∧ (∀ s, slot ls s = lV ops l tr e L s) ∧
    ls.length = (stF tr e 0).ls.length ∧ Body T kd ops tr e μ κ ls L a
  df : a.defers = []
  sz : a.tmps.size = N
theorem dstT_self {t u : Nat} (h : dstT kd (some t) = some u) : u = t := by
  simp only [dstT] at h
  split at h <;> simp at h <;> exact h.symm
theorem dstT_not {t : Nat} (h : dstT kd (some t) = some t) : ∀ s, slotOf kd (some t) ≠ some (s, false) := by
  intro s hs
  cases hk : kd[t]? with
  | none => simp [dstT, hk] at h
  | some k => cases k <;> simp [dstT, hk] at h <;> simp [slotOf, hk] at hs
/-- a temporary that is read is the one that was written last -/
theorem Body.read (R : Reg T call kd ops l tr e) {κ : Lm} {ls : Ls} {L : Nat → Bool} {a : Act} (B : Body T kd ops tr e μ κ ls L a) {i : Nat} {o : Oper} (hi : ops[i]? = some o) (G : Good ops l L i) (hnL : L i = false) {t d : Nat}
    (hl : t ∈ o.looksAt ops) (hf : findD t (cxI T kd ops i).ds 0 = some d) :
    RR μ κ (rtAt (cxI T kd ops i).rt d) none (lget (stF tr e i).ts d) (a.tmps.getD t Go.undef) := by
  have hin : i < ops.size := (Array.getElem?_eq_some_iff.1 hi).1
  have hlen : i ≤ ops.toList.length := by simp; omega
  obtain ⟨_, h2, h3⟩ := findD_some hf
  simp only [Nat.sub_zero] at h2 h3
  have hd : d < i := by
    have := (List.getElem?_eq_some_iff.1 h2).1
    rw [(cxAt_len hlen).1] at this
    simpa using this
  have hk : i - 1 - d < i := by omega
  have hkn : i - 1 - d < ops.size := by omega
  obtain ⟨ok, hok⟩ : ∃ ok, ops[i - 1 - d]? = some ok := ⟨ops[i - 1 - d], by simp [hkn]⟩
  have hb := cxAt_back (T := T) (kd := kd) (c := ⟨[], []⟩) hlen hk (by simpa using hok)
  rw [show i - 1 - (i - 1 - d) = d by omega] at hb
  rw [hb.1] at h2
  simp only [Option.some.injEq] at h2
  have hdst : ok.dst = some t ∧ dstT kd (some t) = some t := by
    cases hx : ok.dst with
    | none => rw [hx] at h2; simp [dstT] at h2
    | some u =>
      rw [hx] at h2
      have := dstT_self h2
      subst this
      exact ⟨rfl, h2⟩
  have hL : L (i - 1 - d) = true := by
    rw [G (i - 1 - d) hkn (by omega) ok o hok hi (.inl ⟨t, hdst.1, .inl hl⟩)]
    simp; omega
  have := B.tmps (i - 1 - d) t ok hL hok hdst.1 hdst.2 (fun k' hk' hlt hLk => by
    by_cases hw : wT ops t k' = true
    · exfalso
      obtain ⟨o', ho'⟩ : ∃ o', ops[k']? = some o' := ⟨ops[k'], by simp [hk']⟩
      simp only [wT, ho', decide_eq_true_eq] at hw
      by_cases hki : k' = i
      · subst hki
        rw [hnL] at hLk
        cases hLk
      · have := G k' hk' hki o' o ho' hi (.inl ⟨t, hw, .inl hl⟩)
        rw [hLk] at this
        have hki' : k' < i := by simpa using this.symm
        have hb' := cxAt_back (T := T) (kd := kd) (c := ⟨[], []⟩) hlen hki' (by simpa using ho')
        rw [hw, hdst.2] at hb'
        exact h3 (i - 1 - k') (by omega) hb'.1
    · simpa using hw)
  rw [rtAt_eq, hb.2]
  obtain ⟨_, _, _, _, _, _, f7⟩ := R.facts i (by omega)
  have e1 := f7 _ hk
  rw [show i - 1 - (i - 1 - d) = d by omega] at e1
  rw [e1]
  exact this
theorem getD_of {a : Act} {N t : Nat} (hN : a.tmps.size = N) (ht : t < N) : a.tmps[t]? = some (a.tmps.getD t Go.undef) := by
  have : t < a.tmps.size := by omega
  simp [this]
theorem kd_lt {t : Nat} {k : Kd} (h : kd[t]? = some k) : t < kd.length := (List.getElem?_eq_some_iff.1 h).1
theorem looks_tmp {o : Oper} {t : Nat} (h : Operand.tmp t ∈ o.op.operands) : t ∈ o.looksAt ops := by
  unfold Oper.looksAt
  exact List.mem_append_left _ (List.mem_filterMap.2 ⟨.tmp t, by simpa using h, rfl⟩)
/-- the operands are what they are in order -/
theorem Body.orel (R : Reg T call kd ops l tr e) {κ : Lm} {ls : Ls} {L : Nat → Bool} {a : Act} (B : Body T kd ops tr e μ κ ls L a) {i : Nat} {o : Oper} (hi : ops[i]? = some o) (G : Good ops l L i) (hnL : L i = false) :
    ORel kd (cxI T kd ops i) μ κ (stF tr e i).vs (stF tr e i).ts ls a.eval (· ∈ o.op.operands) := by
  have hin : i < ops.size := (Array.getElem?_eq_some_iff.1 hi).1
  refine ⟨fun x X hx hX => ?_, fun x s d p cs hx hX hp hs => ?_, fun x s d p n cs hx hX hp hs => ?_⟩
  · cases x with
    | tmp t =>
      have hlk := looks_tmp (ops := ops) hx
      simp only [opd] at hX
      split at hX
      · rename_i j hj
        cases hX
        simp only [getX, Act.eval]
        obtain ⟨_, f2, _⟩ := R.facts i (by omega)
        have hv := B.vars t j hj
        have : vV ops tr e L t j = vV ops tr e (pre i) t j := by
          unfold vV
          rw [lastP_congr (q := fun k => pre i k && wT ops t k) fun k hk => ?_]
          by_cases hw : wT ops t k = true
          · by_cases hki : k = i
            · subst hki; simp [hnL, pre]
            · obtain ⟨o', ho'⟩ : ∃ o', ops[k]? = some o' := ⟨ops[k], by simp [hk]⟩
              have hw' : o'.dst = some t := by simpa only [wT, ho', decide_eq_true_eq] using hw
              rw [G k hk hki o' o ho' hi (.inl ⟨t, hw', .inl hlk⟩)]
              rfl
          · have : wT ops t k = false := by simpa using hw
            simp [this]
        rw [this, ← f2 t j hj] at hv
        exact hv
      all_goals try (cases hX; done)
      all_goals
        split at hX
        · rename_i d hd
          split at hX
          · rename_i hrt
            cases hX
            have := B.read R hi G hnL hlk hd
            rw [hrt] at this
            simpa [RR, getX, Act.eval] using this
          · cases hX
        · cases hX
    | const v =>
      simp only [opd] at hX
      split at hX
      · rename_i x hx'
        cases hX
        exact ofVal_ok v hx' μ
      · cases hX
    | func f => cases hX; exact .f .nil .nil
    | global g => cases hX
  · cases x with
    | tmp t =>
      have hlk := looks_tmp (ops := ops) hx
      simp only [lpl] at hX
      split at hX
      · rename_i s' hs'
        simp at hX
        obtain ⟨rfl, rfl⟩ := hX
        simp [place] at hp
        subst hp
        exact B.locs t _ cs hs' hs
      all_goals try (cases hX; done)
      all_goals
        split at hX
        · rename_i d' hd
          split at hX
          · rename_i s' b hrt
            cases b <;> simp at hX
            obtain ⟨rfl, rfl⟩ := hX
            have := B.read R hi G hnL hlk hd
            rw [hrt] at this
            simp only [RR] at this
            simp only [place] at hp
            split at hp
            · rename_i q hq
              cases hp
              exact this _ hq
            · cases hp
          · cases hX
        · cases hX
    | const v => cases hX
    | func f => cases hX
    | global g => cases hX
  · cases x with
    | tmp t =>
      have hlk := looks_tmp (ops := ops) hx
      simp only [lpl] at hX
      split at hX
      · simp at hX
      all_goals try (cases hX; done)
      all_goals
        split at hX
        · rename_i d' hd
          split at hX
          · rename_i s' b hrt
            cases b <;> simp at hX
            obtain ⟨rfl, rfl⟩ := hX
            have := B.read R hi G hnL hlk hd
            rw [hrt] at this
            simp only [RR] at this
            exact this _ _ hp
          · cases hX
        · cases hX
    | const v => cases hX
    | func f => cases hX
    | global g => cases hX
/-- the guard is the same one -/
theorem Body.guard (R : Reg T call kd ops l tr e) {κ : Lm} {ls : Ls} {L : Nat → Bool} {a : Act} (B : Body T kd ops tr e μ κ ls L a) {i N : Nat} {o : Oper} (hi : ops[i]? = some o) (G : Good ops l L i) (hnL : L i = false)
    (hsz : a.tmps.size = N) (hN : kd.length ≤ N) {g : Option (Nat × Bool)} (hg : grd i (cxI T kd ops i) o.guard = some g) :
    Region.wanted o (yielded ops a.tmps) = wantedG (stF tr e i).ts g := by
  have hin : i < ops.size := (Array.getElem?_eq_some_iff.1 hi).1
  unfold Region.wanted
  cases hgd : o.guard with
  | none => rw [hgd] at hg; simp [grd] at hg; subst hg; rfl
  | some jw =>
    obtain ⟨j, wnt⟩ := jw
    rw [hgd] at hg
    simp only [grd] at hg
    cases hb : Nat.blt j i with
    | false => rw [hb] at hg; simp at hg
    | true =>
    rw [hb] at hg
    have hji : j < i := by simpa using hb
    simp only [cond_true] at hg
    split at hg
    · rename_i t ht
      split at hg
      · rename_i d hd hrt
        cases hbd : Nat.beq d (i - 1 - j) with
        | false => rw [hbd] at hg; simp at hg
        | true =>
        rw [hbd] at hg
        have hdj : d = i - 1 - j := by simpa [Nat.beq_eq] using hbd
        simp only [cond_true, Option.some.injEq] at hg
        subst hg
        have hjn : j < ops.size := by omega
        obtain ⟨oj, hoj⟩ : ∃ oj, ops[j]? = some oj := ⟨ops[j], by simp [hjn]⟩
        have hb' := cxAt_back (T := T) (kd := kd) (r := ops.toList) (c := ⟨[], []⟩) (i := i) (by simp; omega) hji (by simpa using hoj)
        rw [dsAt_eq, hb'.1] at ht
        simp only [Option.getD_some] at ht
        have hdst : oj.dst = some t ∧ dstT kd (some t) = some t := by
          cases hx : oj.dst with
          | none => rw [hx] at ht; simp [dstT] at ht
          | some u =>
            rw [hx] at ht
            have := dstT_self ht
            subst this
            exact ⟨rfl, ht⟩
        have hlk : t ∈ o.looksAt ops := by
          unfold Oper.looksAt
          exact List.mem_append_right _ (by simp [hgd, hoj, hdst.1])
        have hr := B.read R hi G hnL hlk hd
        rw [hdj, hrt] at hr
        simp only [RR] at hr
        have htk : t < N := by
          have := hdst.2
          simp only [dstT] at this
          cases hk : kd[t]? with
          | none => rw [hk] at this; cases this
          | some k => exact Nat.lt_of_lt_of_le (kd_lt hk) hN
        have hy : yielded ops a.tmps j = match a.tmps.getD t Go.undef with | .bool b => some b | _ => none := by
          unfold yielded
          simp only [hoj, Option.bind_some, hdst.1, getD_of hsz htk]
          cases a.tmps.getD t Go.undef <;> rfl
        simp only [hy, wantedG]
        generalize a.tmps.getD t Go.undef = y at hr
        generalize lget (stF tr e i).ts (i - 1 - j) = v at hr
        cases hr <;> try rfl
        rename_i x
        cases x <;> cases wnt <;> rfl
      · cases hg
    · cases hg
theorem RR.keep {μ μ' : Mp} {κ κ' : Lm} {rt : Rt} {v : V} {y : Value} (h : RR μ κ rt none v y) (e : Ext μ μ') (hk : ∀ s b, rt = some (s, b) → κ' s = κ s) : RR μ' κ' rt none v y := by
  unfold RR at *
  cases rt with
  | none => exact VRel.mono e h
  | some sb =>
    obtain ⟨s, b⟩ := sb
    cases b with
    | false => intro p hp; obtain ⟨c, h1, h2⟩ := h p hp; exact ⟨c, by rw [hk s _ rfl]; exact h1, h2⟩
    | true => intro p n hp; obtain ⟨c, q, k, h1, h2⟩ := h p n hp; exact ⟨c, q, k, by rw [hk s _ rfl]; exact h1, h2⟩
theorem freeS_not {s : Nat} {b : Bool} : ∀ {l : List Rt} {d : Nat}, l[d]? = some (some (s, b)) → freeS s l = false := by
  intro l
  induction l with
  | nil => intro d h; simp at h
  | cons x l ih =>
    intro d h
    cases d with
    | zero => simp at h; subst h; simp [freeS, Nat.beq_refl]
    | succ d =>
      simp at h
      cases x with
      | none => exact ih h
      | some p => obtain ⟨s', b'⟩ := p; simp [freeS, ih h]
theorem put_get {a : Act} {N : Nat} (hsz : a.tmps.size = N) (dst : Option Nat) (y : Value) (t : Nat) (ht : t < N) : (a.put dst y).tmps.getD t Go.undef = if dst = some t then y else a.tmps.getD t Go.undef := by
  cases dst with
  | none => simp [Act.put]
  | some d =>
    simp only [Act.put, Option.some.injEq]
    by_cases e : d = t
    · subst e
      have : d < a.tmps.size := by omega
      simp [this]
    · simp [e]
theorem put_size (a : Act) (dst : Option Nat) (y : Value) : (a.put dst y).tmps.size = a.tmps.size := by cases dst <;> simp [Act.put]
theorem put_defs (a : Act) (dst : Option Nat) (y : Value) : (a.put dst y).defers = a.defers := by cases dst <;> rfl

/-- one operation more -/
theorem Inv.put (R : Reg T call kd ops l tr e) {N : Nat} {μ0 : Mp} {h0 : H} {w0 : World} {w₀ : Nat} {L : Nat → Bool} {a : Act} {i : Nat} {o : Oper} (hi : ops[i]? = some o) (G : Good ops l L i) (hnL : L i = false) (hN : kd.length ≤ N)
    {μ : Mp} {κ : Lm} {ls : Ls} {w : World} (hF : FrW w₀ μ0 h0 w0 μ (hV ops l tr e L) w) (hll : ls.length = (stF tr e 0).ls.length) (hB : Body T kd ops tr e μ κ ls L a) (hdf : a.defers = []) (hsz : a.tmps.size = N)
    {μ' : Mp} {κ' : Lm} {ls' : Ls} {w' : World} {y : Value} (hH : HRel μ' (hV ops l tr e (ext L i)) w') (hL' : LRel μ' κ' ls' (hV ops l tr e (ext L i)) w' w₀) (hw : w₀ ≤ w'.heap.size) (hF' : FrW w₀ μ (hV ops l tr e L) w μ' (hV ops l tr e (ext L i)) w')
    (hls' : ∀ s, slot ls' s = lV ops l tr e (ext L i) s) (hll' : ls'.length = ls.length) (hlb : ∀ s cs, lays (compO T kd (cxI T kd ops i) o).1 ≠ some s → slot ls' s = some cs → ∃ cs, slot ls s = some cs)
    (hRR : RR μ' κ' (compO T kd (cxI T kd ops i) o).2 (boxed (compO T kd (cxI T kd ops i) o).1) (stF tr e i).v y) (hk : ∀ s, lays (compO T kd (cxI T kd ops i) o).1 ≠ some s → κ' s = κ s)
    (hun : ∀ s, slotOf kd o.dst = some (s, false) → boxed (compO T kd (cxI T kd ops i) o).1 = some s) :
    Inv T kd ops l tr e N μ0 h0 w0 w₀ (ext L i) (a.put o.dst y) w' := by
  have hin : i < ops.size := (Array.getElem?_eq_some_iff.1 hi).1
  obtain ⟨g, d, hro, hg, hd, hok, hrt, hfp⟩ := R.at hi
  have cp := compO_cp (T := T) kd (cxI T kd ops i) o
  have hput := fun t (ht : t < N) => put_get hsz o.dst y t ht
  refine ⟨⟨μ', κ', ls', hH, hL', hw, hF.trans hF', hls', hll'.trans hll, ⟨fun t j hj => ?_, fun t s cs hts hcs => ?_, fun k t ok hLk hok' hdst hdT hlast => ?_⟩⟩, by rw [put_defs]; exact hdf, by rw [put_size]; exact hsz⟩
  · rw [hput t (Nat.lt_of_lt_of_le (kd_lt hj) hN)]
    unfold vV
    rw [ver_ext hin (fun hwi k hk hik hLk => ?_)]
    · by_cases hdt : o.dst = some t
      · have : wT ops t i = true := by simp [wT, hi, hdt]
        rw [if_pos this, if_pos hdt]
        have hb : boxed (compO T kd (cxI T kd ops i) o).1 = none := by
          cases hbx : boxed (compO T kd (cxI T kd ops i) o).1 with
          | none => rfl
          | some s =>
            have := cp.bx s hbx
            rw [hdt] at this
            simp [slotOf, hj] at this
        have hr0 : (compO T kd (cxI T kd ops i) o).2 = none := by
          rw [hdt] at hd
          simp only [dstV, hj, Option.some.injEq] at hd
          subst hd
          cases hx : (compO T kd (cxI T kd ops i) o).2 with
          | none => rfl
          | some p => rw [show cxAt T kd ops.toList ⟨[], []⟩ i = cxI T kd ops i from rfl, hx] at hrt; simp [rtOk] at hrt
        rw [hb, hr0] at hRR
        exact hRR
      · have : ¬ wT ops t i = true := by simp [wT, hi, hdt]
        rw [if_neg this, if_neg hdt]
        exact (hB.vars t j hj).mono hF'.ext
    · by_cases hw2 : wT ops t k = true
      · exfalso
        obtain ⟨ok, hok'⟩ : ∃ ok, ops[k]? = some ok := ⟨ops[k], by simp [hk]⟩
        simp only [wT, hok', decide_eq_true_eq] at hw2
        simp only [wT, hi, decide_eq_true_eq] at hwi
        have := G k hk (by omega) ok o hok' hi (.inl ⟨t, hw2, .inr hwi⟩)
        rw [hLk] at this
        have : k < i := by simpa using this.symm
        omega
      · simpa using hw2
  · rw [hput t (Nat.lt_of_lt_of_le (kd_lt hts) hN)]
    have hst : slotOf kd (some t) = some (s, false) := by simp [slotOf, hts]
    by_cases hdt : o.dst = some t
    · rw [if_pos hdt]
      have hb := hun s (by rw [hdt]; exact hst)
      rw [hb] at hRR
      exact hRR
    · rw [if_neg hdt]
      have hly : lays (compO T kd (cxI T kd ops i) o).1 ≠ some s := by
        intro hl
        obtain ⟨⟨b, hb⟩, _⟩ := cp.ly s hl
        cases hx : o.dst with
        | none => rw [hx] at hb; simp [slotOf] at hb
        | some u =>
          rw [hx] at hb
          have := R.injL u t s b false hb hst
          subst this
          exact hdt hx
      obtain ⟨cs0, hcs0⟩ := hlb s cs hly hcs
      rw [hk s hly]
      exact hB.locs t s cs0 hts hcs0
  · have htN : t < N := by
      simp only [dstT] at hdT
      cases hk : kd[t]? with
      | none => rw [hk] at hdT; cases hdT
      | some k => exact Nat.lt_of_lt_of_le (kd_lt hk) hN
    have hkn : k < ops.size := (Array.getElem?_eq_some_iff.1 hok').1
    rw [hput t htN]
    by_cases hki : k = i
    · subst hki
      rw [hi] at hok'
      cases hok'
      rw [if_pos hdst]
      have hb : boxed (compO T kd (cxI T kd ops k) o).1 = none := by
        cases hbx : boxed (compO T kd (cxI T kd ops k) o).1 with
        | none => rfl
        | some s =>
          have := cp.bx s hbx
          rw [hdst] at this
          exact absurd this (dstT_not hdT s)
      rw [hb] at hRR
      exact hRR
    · have hL : L k = true := by
        simp only [ext, Bool.or_eq_true, decide_eq_true_eq] at hLk
        exact hLk.resolve_right hki
      by_cases hdt : o.dst = some t
      · exfalso
        have := G k hkn hki ok o hok' hi (.inl ⟨t, hdst, .inr hdt⟩)
        rw [hL] at this
        have hlt : k < i := by simpa using this.symm
        have := hlast i hin hlt (by simp [ext])
        simp [wT, hi, hdt] at this
      · rw [if_neg hdt]
        refine RR.keep (hB.tmps k t ok hL hok' hdst hdT fun k' hk' hlt hL' => hlast k' hk' hlt (by simp [ext, hL'])) hF'.ext fun s b hs => hk s fun hl => ?_
        obtain ⟨hf1, hf2⟩ := lays_fp hl
        obtain ⟨_, hfree⟩ := cp.ly s hl
        have cpk := compO_cp (T := T) kd (cxI T kd ops k) ok
        obtain ⟨_, _, _, _, _, _, _, hfpk⟩ := R.at hok'
        have := G k hkn hki ok o hok' hi (.inr (.inr (.inl ⟨s, by rw [hfpk]; exact cpk.rt s b hs, by rw [hfp]; exact hf1, .inr (by rw [hfp]; exact hf2)⟩)))
        rw [hL] at this
        have hlt : k < i := by simpa using this.symm
        have hb' := cxAt_back (T := T) (kd := kd) (r := ops.toList) (c := ⟨[], []⟩) (i := i) (by simp; omega) hlt (by simpa using hok')
        have h2 := hb'.2
        rw [show cxAt T kd ops.toList ⟨[], []⟩ k = cxI T kd ops k from rfl, hs] at h2
        rw [freeS_not h2] at hfree
        cases hfree
end
end Am
namespace Am
open Go
variable {P : Program} {T : TT} {call : CallT} {μ : Mp}
section
variable {kd : List Kd} {ops : Array Oper} {l : List RO} {tr : List St} {e : St}
theorem ver_now {L w : Nat → Bool} {n i : Nat} (hnL : L i = false) (h : ∀ k < n, k ≠ i → w k = true → L k = decide (k < i)) : lastP (fun k => L k && w k) n = lastP (fun k => pre i k && w k) n := by
  refine lastP_congr fun k hk => ?_
  by_cases hki : k = i
  · subst hki; simp [hnL, pre]
  · cases hw : w k with
    | false => simp
    | true => rw [h k hk hki hw]; rfl
theorem hV_ext {L : Nat → Bool} {i : Nat} {o : Oper} (hi : ops[i]? = some o) (G : Good ops l L i) : hV ops l tr e (ext L i) = if wH l i then (stF tr e (i + 1)).h else hV ops l tr e L := by
  have hin : i < ops.size := (Array.getElem?_eq_some_iff.1 hi).1
  unfold hV
  rw [ver_ext hin (fun hwi k hk hik hLk => ?_)]
  · cases wH l i <;> rfl
  · cases hw : wH l k with
    | false => rfl
    | true =>
      have := G k hk (by omega) ops[k] o (by simp [hk]) hi (.inr (.inr (.inr ⟨hw, hwi⟩)))
      rw [hLk] at this
      have : k < i := by simpa using this.symm
      omega
theorem hV_now (R : Reg T call kd ops l tr e) {L : Nat → Bool} {i : Nat} {o : Oper} (hi : ops[i]? = some o) (G : Good ops l L i) (hnL : L i = false) (hw : wH l i = true) : hV ops l tr e L = (stF tr e i).h := by
  have hin : i < ops.size := (Array.getElem?_eq_some_iff.1 hi).1
  obtain ⟨_, _, f3, _⟩ := R.facts i (by omega)
  rw [f3]
  unfold hV
  rw [ver_now (w := wH l) hnL fun k hk hki hwk => G k hk hki ops[k] o (by simp [hk]) hi (.inr (.inr (.inr ⟨hwk, hw⟩)))]
theorem wS_iff {s k : Nat} : wS l s k = true ↔ (fpAt l k).sl = some s ∧ (fpAt l k).sw = true := by simp [wS]
theorem lV_ext {L : Nat → Bool} {i : Nat} {o : Oper} (hi : ops[i]? = some o) (G : Good ops l L i) (s : Nat) : lV ops l tr e (ext L i) s = if (fpAt l i).sl = some s ∧ (fpAt l i).sw = true then slot (stF tr e (i + 1)).ls s else lV ops l tr e L s := by
  have hin : i < ops.size := (Array.getElem?_eq_some_iff.1 hi).1
  unfold lV
  rw [ver_ext hin (fun hwi k hk hik hLk => ?_)]
  · by_cases h : wS l s i = true
    · rw [if_pos h, if_pos (wS_iff.1 h)]
    · rw [if_neg h, if_neg (fun h' => h (wS_iff.2 h'))]
  · cases hw : wS l s k with
    | false => rfl
    | true =>
      have h1 := wS_iff.1 hw
      have h2 := wS_iff.1 hwi
      have := G k hk (by omega) ops[k] o (by simp [hk]) hi (.inr (.inr (.inl ⟨s, h1.1, h2.1, .inl h1.2⟩)))
      rw [hLk] at this
      have : k < i := by simpa using this.symm
      omega
theorem lV_now (R : Reg T call kd ops l tr e) {L : Nat → Bool} {i : Nat} {o : Oper} (hi : ops[i]? = some o) (G : Good ops l L i) (hnL : L i = false) {s : Nat} (hs : (fpAt l i).sl = some s) : lV ops l tr e L s = slot (stF tr e i).ls s := by
  have hin : i < ops.size := (Array.getElem?_eq_some_iff.1 hi).1
  obtain ⟨_, _, _, f4, _⟩ := R.facts i (by omega)
  rw [f4]
  unfold lV
  rw [ver_now (w := wS l s) hnL fun k hk hki hwk => G k hk hki ops[k] o (by simp [hk]) hi (.inr (.inr (.inl ⟨s, (wS_iff.1 hwk).1, hs, .inl (wS_iff.1 hwk).2⟩)))]
theorem fp_read {o : O} (h1 : (fp o).rh = true) (h2 : (fp o).wh = false) : (fp o).sw = false := by cases o <;> simp_all [fp]

theorem Inv.step (hT : TOk P T) (hcall : CallOK P call) (R : Reg T call kd ops l tr e) {N : Nat} {μ0 : Mp} {h0 : H} {w0 : World} {w₀ : Nat} {L : Nat → Bool} {a : Act} {w : World} {i : Nat} {o : Oper} (hi : ops[i]? = some o)
    (G : Good ops l L i) (hnL : L i = false) (hN : kd.length ≤ N)
    (hf : (fpAt l i).rh = true → (fpAt l i).wh = false → ∀ ro, roAt l i = some ro → wantedG (stF tr e i).ts ro.g = true → ∃ ls' h', evO call (stF tr e i).vs (stF tr e i).ts (stF tr e i).ls (hV ops l tr e L) ro.o = .ok (stF tr e i).v ls' h')
    (hI : Inv T kd ops l tr e N μ0 h0 w0 w₀ L a w) {K : Act → World → Prop} (hK : ∀ a w, Inv T kd ops l tr e N μ0 h0 w0 w₀ (ext L i) a w → K a w) {Q : Exit → Act → World → Prop} (hQ : LetsOutT Q) : wpOp P ops Q i K a w := by
  have hin : i < ops.size := (Array.getElem?_eq_some_iff.1 hi).1
  obtain ⟨⟨μ, κ, ls, hH, hL, hw0, hF, hls, hll, hB⟩, hdf, hsz⟩ := hI
  obtain ⟨g, d, hro, hg, hd, hok, hrt, hfp⟩ := R.at hi
  have cp := compO_cp (T := T) kd (cxI T kd ops i) o
  have hst := R.st i _ hro
  have hgd := hB.guard R hi G hnL hsz hN hg
  obtain ⟨_, _, _, _, f5, _⟩ := R.facts i (by omega)
  unfold wpOp
  simp only [hi]
  rw [hgd]
  rcases hst.ev with ⟨hwt, hev⟩ | ⟨hwt, hv, hls1, hh1⟩
  · simp only at hwt hev
    rw [if_pos hwt]
    -- here and now
    have now : ∃ ls', evO call (stF tr e i).vs (stF tr e i).ts ls (hV ops l tr e L) (compO T kd (cxI T kd ops i) o).1 = .ok (stF tr e i).v ls' (hV ops l tr e (ext L i)) ∧ ls'.length = ls.length ∧ ∀ s, slot ls' s = lV ops l tr e (ext L i) s := by
      have hsl : ∀ s, (fp (compO T kd (cxI T kd ops i) o).1).sl = some s → slot ls s = slot (stF tr e i).ls s := fun s hs => by
        rw [hls, lV_now R hi G hnL (by rw [hfp]; exact hs)]
      by_cases hr : (fpAt l i).rh = true ∧ (fpAt l i).wh = false
      · obtain ⟨ls1, h1, he1⟩ := hf hr.1 hr.2 _ hro hwt
        simp only at he1
        obtain ⟨_, _, _, loc⟩ := evO_local _ _ _ _ _ _ _ _ he1
        obtain ⟨ls', q1, q2, q3⟩ := loc ls (hV ops l tr e L) hsl (by rw [hll, f5]) (fun _ => rfl)
        have hwh : (fp (compO T kd (cxI T kd ops i) o).1).wh = false := by rw [← hfp]; exact hr.2
        have hsw := fp_read (o := (compO T kd (cxI T kd ops i) o).1) (by rw [← hfp]; exact hr.1) hwh
        rw [hwh] at q1
        refine ⟨ls', ?_, q2, fun s => ?_⟩
        · rw [hV_ext hi G, wH, hr.2]
          exact q1
        · rw [q3, lV_ext hi G, hfp, hsw]
          simp [hls]
      · obtain ⟨_, _, _, loc⟩ := evO_local _ _ _ _ _ _ _ _ hev
        obtain ⟨ls', q1, q2, q3⟩ := loc ls (hV ops l tr e L) hsl (by rw [hll, f5]) (fun hrh => hV_now R hi G hnL (by
          rw [← hfp] at hrh
          cases hx : (fpAt l i).wh with
          | true => exact hx
          | false => exact absurd ⟨hrh, hx⟩ hr))
        refine ⟨ls', ?_, q2, fun s => ?_⟩
        · rw [q1, hV_ext hi G, wH, hfp]
        · rw [q3, lV_ext hi G, hfp, hls]
    obtain ⟨ls', he, hl', hs'⟩ := now
    have hdoes := ok_all hcall o kd (cxI T kd ops i) μ κ _ _ ls _ w w₀ a.eval _ ls' _ ⟨hT, hB.orel R hi G hnL, hH, hL, hw0⟩ he
    refine .inl (hdoes.wp (fun y w' hres => ?_) hQ)
    obtain ⟨μ', κ', r1, r2, r3, r4, r5⟩ := hres
    refine hK _ _ (Inv.put R hi G hnL hN hF hll hB hdf hsz r1 r2 (Nat.le_trans hw0 r3.size) r3 hs' hl' (fun s cs hly hcs => slot_before he hly hcs) r4 r5 fun s hs => ?_)
    rcases (dst_boxed (T := T) (c := cxI T kd ops i) hok hs).2 with h | h
    · rw [h] at he; simp [evO, e_no] at he
    · exact h
  · simp only at hwt
    rw [if_neg (by rw [hwt]; simp)]
    have hgn : o.guard ≠ none := by
      intro hgn
      rw [hgn] at hg
      simp [grd] at hg
      subst hg
      simp [wantedG] at hwt
    have e1 : hV ops l tr e (ext L i) = hV ops l tr e L := by
      rw [hV_ext hi G]
      split
      · rename_i hwi; rw [hh1, hV_now R hi G hnL hwi]
      · rfl
    have e2 : ∀ s, lV ops l tr e (ext L i) s = lV ops l tr e L s := fun s => by
      rw [lV_ext hi G]
      split
      · rename_i hs; rw [hls1, lV_now R hi G hnL hs.1]
      · rfl
    refine hK _ _ (Inv.put (μ' := μ) (κ' := κ) (ls' := ls) R hi G hnL hN hF hll hB hdf hsz (by rw [e1]; exact hH) (by rw [e1]; exact hL) hw0 (by rw [e1]; exact FrW.refl _ _ _ _) (fun s => by rw [e2]; exact hls s) rfl (fun s cs _ h => ⟨cs, h⟩) ?_ (fun _ _ => rfl) fun s hs => ?_)
    · rw [hv]
      unfold RR
      cases hb : boxed (compO T kd (cxI T kd ops i) o).1 with
      | some s => exact absurd (dst_boxed (T := T) (c := cxI T kd ops i) hok (cp.bx s hb)).1 hgn
      | none =>
        cases hr : (compO T kd (cxI T kd ops i) o).2 with
        | none => exact VRel.undef _
        | some sb =>
          obtain ⟨s, b⟩ := sb
          cases b with
          | false => intro p hp; cases hp
          | true => intro p n hp; cases hp
    · exact absurd (dst_boxed (T := T) (c := cxI T kd ops i) hok hs).1 hgn
end
end Am
namespace Am
open Go
variable {P : Program} {T : TT} {call : CallT} {μ : Mp}

mutual
theorem veq_ok : ∀ {a b : V}, veq a b = true → a = b
  | .b x, .b y, h => by cases x <;> cases y <;> simp [veq, beqB] at h <;> rfl
  | .i k x, .i k' y, h => by
    simp only [veq, Bool.and_eq_true, keq_eq, ieq_eq, decide_eq_true_eq, beq_iff_eq] at h
    rw [h.1, h.2]
  | .s x, .s y, h => by simp only [veq, seq_self, beq_iff_eq] at h; rw [h]
  | .pn, .pn, _ => rfl
  | .p b o, .p b' o', h => by simp only [veq, Bool.and_eq_true, Nat.beq_eq] at h; rw [h.1, h.2]
  | .sn, .sn, _ => rfl
  | .sl b o n sz none, .sl b' o' n' sz' none, h => by
    simp only [veq, Bool.and_eq_true, Nat.beq_eq] at h
    obtain ⟨rfl, rfl, rfl, rfl⟩ := h
    rfl
  | .sl b o n sz (some c), .sl b' o' n' sz' (some c'), h => by
    simp only [veq, Bool.and_eq_true, Nat.beq_eq] at h
    obtain ⟨rfl, rfl, rfl, rfl, rfl⟩ := h
    rfl
  | .mn, .mn, _ => rfl
  | .m r, .m r', h => by simp only [veq, Nat.beq_eq] at h; rw [h]
  | .nf, .nf, _ => rfl
  | .ic t x, .ic t' y, h => by
    simp only [veq, Bool.and_eq_true, Nat.beq_eq] at h
    rw [h.1, veq_ok h.2]
  | .ni, .ni, _ => rfl
  | .a x, .a y, h => by simp only [veq] at h; rw [veqs_ok h]
  | .t x, .t y, h => by simp only [veq] at h; rw [veqs_ok h]
  | .sl _ _ _ _ none, .sl _ _ _ _ (some _), h => by simp [veq] at h
  | .sl _ _ _ _ (some _), .sl _ _ _ _ none, h => by simp [veq] at h
  | .f .., b, h => by simp [veq] at h
  | .lp .., b, h => by simp [veq] at h
  | .lsl .., b, h => by simp [veq] at h
  | .b _, .i _ _, h | .b _, .s _, h | .b _, .pn, h | .b _, .p _ _, h | .b _, .sn, h | .b _, .sl .., h | .b _, .mn, h | .b _, .m _, h | .b _, .f .., h | .b _, .nf, h | .b _, .ic .., h | .b _, .ni, h | .b _, .a _, h | .b _, .t _, h | .b _, .lp _, h | .b _, .lsl .., h => by simp [veq] at h
  | .i .., .b _, h | .i .., .s _, h | .i .., .pn, h | .i .., .p _ _, h | .i .., .sn, h | .i .., .sl .., h | .i .., .mn, h | .i .., .m _, h | .i .., .f .., h | .i .., .nf, h | .i .., .ic .., h | .i .., .ni, h | .i .., .a _, h | .i .., .t _, h | .i .., .lp _, h | .i .., .lsl .., h => by simp [veq] at h
  | .s _, .b _, h | .s _, .i _ _, h | .s _, .pn, h | .s _, .p _ _, h | .s _, .sn, h | .s _, .sl .., h | .s _, .mn, h | .s _, .m _, h | .s _, .f .., h | .s _, .nf, h | .s _, .ic .., h | .s _, .ni, h | .s _, .a _, h | .s _, .t _, h | .s _, .lp _, h | .s _, .lsl .., h => by simp [veq] at h
  | .pn, .b _, h | .pn, .i _ _, h | .pn, .s _, h | .pn, .p _ _, h | .pn, .sn, h | .pn, .sl .., h | .pn, .mn, h | .pn, .m _, h | .pn, .f .., h | .pn, .nf, h | .pn, .ic .., h | .pn, .ni, h | .pn, .a _, h | .pn, .t _, h | .pn, .lp _, h | .pn, .lsl .., h => by simp [veq] at h
  | .p .., .b _, h | .p .., .i _ _, h | .p .., .s _, h | .p .., .pn, h | .p .., .sn, h | .p .., .sl .., h | .p .., .mn, h | .p .., .m _, h | .p .., .f .., h | .p .., .nf, h | .p .., .ic .., h | .p .., .ni, h | .p .., .a _, h | .p .., .t _, h | .p .., .lp _, h | .p .., .lsl .., h => by simp [veq] at h
  | .sn, .b _, h | .sn, .i _ _, h | .sn, .s _, h | .sn, .pn, h | .sn, .p _ _, h | .sn, .sl .., h | .sn, .mn, h | .sn, .m _, h | .sn, .f .., h | .sn, .nf, h | .sn, .ic .., h | .sn, .ni, h | .sn, .a _, h | .sn, .t _, h | .sn, .lp _, h | .sn, .lsl .., h => by simp [veq] at h
  | .sl _ _ _ _ c, .b _, h | .sl _ _ _ _ c, .i _ _, h | .sl _ _ _ _ c, .s _, h | .sl _ _ _ _ c, .pn, h | .sl _ _ _ _ c, .p _ _, h | .sl _ _ _ _ c, .sn, h | .sl _ _ _ _ c, .mn, h | .sl _ _ _ _ c, .m _, h | .sl _ _ _ _ c, .f .., h | .sl _ _ _ _ c, .nf, h | .sl _ _ _ _ c, .ic .., h | .sl _ _ _ _ c, .ni, h | .sl _ _ _ _ c, .a _, h | .sl _ _ _ _ c, .t _, h | .sl _ _ _ _ c, .lp _, h | .sl _ _ _ _ c, .lsl .., h => by cases c <;> simp [veq] at h
  | .mn, .b _, h | .mn, .i _ _, h | .mn, .s _, h | .mn, .pn, h | .mn, .p _ _, h | .mn, .sn, h | .mn, .sl .., h | .mn, .m _, h | .mn, .f .., h | .mn, .nf, h | .mn, .ic .., h | .mn, .ni, h | .mn, .a _, h | .mn, .t _, h | .mn, .lp _, h | .mn, .lsl .., h => by simp [veq] at h
  | .m _, .b _, h | .m _, .i _ _, h | .m _, .s _, h | .m _, .pn, h | .m _, .p _ _, h | .m _, .sn, h | .m _, .sl .., h | .m _, .mn, h | .m _, .f .., h | .m _, .nf, h | .m _, .ic .., h | .m _, .ni, h | .m _, .a _, h | .m _, .t _, h | .m _, .lp _, h | .m _, .lsl .., h => by simp [veq] at h
  | .nf, .b _, h | .nf, .i _ _, h | .nf, .s _, h | .nf, .pn, h | .nf, .p _ _, h | .nf, .sn, h | .nf, .sl .., h | .nf, .mn, h | .nf, .m _, h | .nf, .f .., h | .nf, .ic .., h | .nf, .ni, h | .nf, .a _, h | .nf, .t _, h | .nf, .lp _, h | .nf, .lsl .., h => by simp [veq] at h
  | .ic .., .b _, h | .ic .., .i _ _, h | .ic .., .s _, h | .ic .., .pn, h | .ic .., .p _ _, h | .ic .., .sn, h | .ic .., .sl .., h | .ic .., .mn, h | .ic .., .m _, h | .ic .., .f .., h | .ic .., .nf, h | .ic .., .ni, h | .ic .., .a _, h | .ic .., .t _, h | .ic .., .lp _, h | .ic .., .lsl .., h => by simp [veq] at h
  | .ni, .b _, h | .ni, .i _ _, h | .ni, .s _, h | .ni, .pn, h | .ni, .p _ _, h | .ni, .sn, h | .ni, .sl .., h | .ni, .mn, h | .ni, .m _, h | .ni, .f .., h | .ni, .nf, h | .ni, .ic .., h | .ni, .a _, h | .ni, .t _, h | .ni, .lp _, h | .ni, .lsl .., h => by simp [veq] at h
  | .a _, .b _, h | .a _, .i _ _, h | .a _, .s _, h | .a _, .pn, h | .a _, .p _ _, h | .a _, .sn, h | .a _, .sl .., h | .a _, .mn, h | .a _, .m _, h | .a _, .f .., h | .a _, .nf, h | .a _, .ic .., h | .a _, .ni, h | .a _, .t _, h | .a _, .lp _, h | .a _, .lsl .., h => by simp [veq] at h
  | .t _, .b _, h | .t _, .i _ _, h | .t _, .s _, h | .t _, .pn, h | .t _, .p _ _, h | .t _, .sn, h | .t _, .sl .., h | .t _, .mn, h | .t _, .m _, h | .t _, .f .., h | .t _, .nf, h | .t _, .ic .., h | .t _, .ni, h | .t _, .a _, h | .t _, .lp _, h | .t _, .lsl .., h => by simp [veq] at h
theorem veqs_ok : ∀ {a b : List V}, veqs a b = true → a = b
  | [], [], _ => rfl
  | a :: x, b :: y, h => by
    simp only [veqs, Bool.and_eq_true] at h
    rw [veq_ok h.1, veqs_ok h.2]
  | [], _ :: _, h => by simp [veqs] at h
  | _ :: _, [], h => by simp [veqs] at h
end
theorem confl_of {ops : Array Oper} {x y : Oper} {fx fy : Fp} (h : Cf ops x y fx fy) : confl ops x y fx fy = true := by
  unfold confl
  rcases h with ⟨d, h1, h2⟩ | ⟨d, h1, h2⟩ | ⟨s, h1, h2, h3⟩ | ⟨h1, h2⟩
  · rw [h1]
    rcases h2 with h2 | h2
    · simp [h2]
    · simp [h2, Nat.beq_refl]
  · rw [h1]; simp [h2]
  · rw [h1, h2]
    rcases h3 with h3 | h3 <;> simp [h3, Nat.beq_refl]
  · simp [h1, h2]
theorem Cf.symm {ops : Array Oper} {x y : Oper} {fx fy : Fp} (h : Cf ops x y fx fy) : Cf ops y x fy fx := by
  rcases h with ⟨d, h1, h2 | h2⟩ | ⟨d, h1, h2⟩ | ⟨s, h1, h2, h3⟩ | ⟨h1, h2⟩
  · exact .inr (.inl ⟨d, h1, h2⟩)
  · exact .inl ⟨d, h2, .inr h1⟩
  · exact .inl ⟨d, h1, .inl h2⟩
  · exact .inr (.inr (.inl ⟨s, h2, h1, h3.symm⟩))
  · exact .inr (.inr (.inr ⟨h2, h1⟩))
theorem maskOf_bit {acc : List Nat} {i : Nat} : ∀ {es : List Edge}, Nat.testBit (maskOf acc es) i = true → ∃ e ∈ es, Region.binds .any e = true ∧ (e.on = i ∨ Nat.testBit (acc.getD e.on 0) i = true) := by
  intro es
  induction es with
  | nil => intro h; simp [maskOf] at h
  | cons e es ih =>
    intro h
    simp only [maskOf] at h
    cases hb : Region.binds .any e with
    | false =>
      rw [hb] at h
      obtain ⟨e', h1, h2⟩ := ih h
      exact ⟨e', by simp [h1], h2⟩
    | true =>
      rw [hb] at h
      simp only [cond_true] at h
      have h' : Nat.testBit ((2 ^ e.on ||| acc.getD e.on 0) ||| maskOf acc es) i = true := h
      rw [Nat.testBit_or, Nat.testBit_or, Nat.testBit_two_pow] at h'
      simp only [Bool.or_eq_true, decide_eq_true_eq] at h'
      rcases h' with (h' | h') | h'
      · exact ⟨e, by simp, hb, .inl h'⟩
      · exact ⟨e, by simp, hb, .inr h'⟩
      · obtain ⟨e', h1, h2⟩ := ih h'
        exact ⟨e', by simp [h1], h2⟩
theorem masks_spec : ∀ (r : List Oper) (acc : List Nat), (∃ tl, masks r acc = acc ++ tl) ∧ ∀ j o, r[j]? = some o → (masks r acc).getD (acc.length + j) 0 = maskOf ((masks r acc).take (acc.length + j)) o.after.toList := by
  intro r
  induction r with
  | nil => intro acc; exact ⟨⟨[], by simp [masks]⟩, by simp⟩
  | cons o r ih =>
    intro acc
    obtain ⟨⟨tl, h1⟩, h2⟩ := ih (acc ++ [maskOf acc o.after.toList])
    refine ⟨⟨maskOf acc o.after.toList :: tl, by simp [masks, h1]⟩, fun j o' hj => ?_⟩
    cases j with
    | zero =>
      simp at hj
      subst hj
      simp [masks, h1]
    | succ j =>
      simp at hj
      have := h2 j o' hj
      simp only [List.length_append, List.length_singleton] at this
      simp only [masks]
      rw [show acc.length + (j + 1) = acc.length + 1 + j by omega]
      exact this
theorem mask_anc {ops : Array Oper} {i j : Nat} {o : Oper} (hj : ops[j]? = some o) (h : Nat.testBit ((masks ops.toList []).getD j 0) i = true) :
    ∃ e ∈ o.after, Region.binds .any e = true ∧ (e.on = i ∨ (e.on < j ∧ Nat.testBit ((masks ops.toList []).getD e.on 0) i = true)) := by
  have := (masks_spec ops.toList []).2 j o (by simpa using hj)
  simp only [List.length_nil, Nat.zero_add] at this
  rw [this] at h
  obtain ⟨e, h1, h2, h3⟩ := maskOf_bit h
  refine ⟨e, by simpa using h1, h2, h3.imp id fun h3 => ?_⟩
  by_cases hlt : e.on < j
  · refine ⟨hlt, ?_⟩
    rw [List.getD_eq_getElem?_getD, List.getElem?_take_of_lt hlt, ← List.getD_eq_getElem?_getD] at h3
    exact h3
  · rw [List.getD_eq_getElem?_getD, List.getElem?_eq_none (by simp; omega)] at h3
    simp at h3
/-- what is ahead of one that may run has run -/
def Closed (ops : Array Oper) (L : Nat → Bool) : Prop := ∀ k o, L k = true → ops[k]? = some o → ∀ e ∈ o.after, Region.binds .any e = true → L e.on = true
theorem anc_listed {ops : Array Oper} {L : Nat → Bool} (hC : Closed ops L) {i : Nat} : ∀ {j : Nat} {o : Oper}, ops[j]? = some o → (∀ e ∈ o.after, Region.binds .any e = true → L e.on = true) → Nat.testBit ((masks ops.toList []).getD j 0) i = true → L i = true := by
  intro j
  induction j using Nat.strongRecOn with
  | _ j ih =>
    intro o hj hr h
    obtain ⟨e, h1, h2, h3⟩ := mask_anc hj h
    have hL := hr e h1 h2
    rcases h3 with rfl | ⟨hlt, h3⟩
    · exact hL
    · have hjn : j < ops.size := (Array.getElem?_eq_some_iff.1 hj).1
      have hoe : ops[e.on]? = some ops[e.on] := by simp [Nat.lt_trans hlt hjn]
      exact ih e.on hlt hoe (fun e' h1' h2' => hC e.on _ hL hoe e' h1' h2') h3
end Am
namespace Am
open Go
variable {P : Program} {T : TT} {call : CallT} {μ : Mp}
section
variable {kd : List Kd} {ops : Array Oper} {l : List RO} {tr : List St} {e : St}
theorem good_of (ho : ordered ops l (masks ops.toList []) ops.size = true) {L : Nat → Bool} (hC : Closed ops L) {i : Nat} {o : Oper} (hi : ops[i]? = some o) (hnL : L i = false) (hr : ∀ e ∈ o.after, Region.binds .any e = true → L e.on = true) : Good ops l L i := by
  have hin : i < ops.size := (Array.getElem?_eq_some_iff.1 hi).1
  simp only [ordered, List.all_eq_true, List.mem_range] at ho
  intro k hk hki x y hx hy hcf
  rw [hi] at hy
  cases hy
  rcases Nat.lt_or_ge k i with hlt | hge
  · have := ho i hin k hlt
    simp only [hx, hi, confl_of hcf, Bool.not_true, Bool.false_or] at this
    rw [anc_listed hC hi hr this]
    simp [hlt]
  · have hlt : i < k := by omega
    have := ho k hk i hlt
    simp only [hx, hi, confl_of hcf.symm, Bool.not_true, Bool.false_or] at this
    have hd : decide (k < i) = false := by simp; omega
    rw [hd]
    cases hLk : L k with
    | false => rfl
    | true =>
      have := anc_listed hC hx (fun e' h1 h2 => hC k x hLk hx e' h1 h2) this
      rw [hnL] at this
      cases this
theorem lastWh_eq (l : List RO) (n : Nat) : lastWh l n = lastP (wH l) n := by
  induction n with
  | zero => rfl
  | succ n ih =>
    simp only [lastWh, lastP, ih]
    by_cases h : (fpAt l n).wh = true
    · simp [wH, h]
    · have : (fpAt l n).wh = false := by simpa using h
      simp [wH, this]
theorem lastP_pre {w : Nat → Bool} {n i : Nat} (h : i ≤ n) : lastP (fun k => pre i k && w k) n = lastP w i := by
  cases hl : lastP w i with
  | none =>
    refine lastP_not fun k hk => ?_
    by_cases hki : k < i
    · simp [lastP_none hl k hki]
    · simp [pre, hki]
  | some m =>
    obtain ⟨h1, h2, h3⟩ := lastP_some hl
    refine lastP_is (by omega) (by simp [pre, h1, h2]) fun j hj hjn => ?_
    by_cases hji : j < i
    · simp [h3 j hj hji]
    · simp [pre, hji]
theorem mem_floats {ms : List Nat} {n : Nat} {r : Nat} {x : Option Nat} : ∀ {rs : List Nat}, r ∈ rs → (fpAt l r).rh = true → (fpAt l r).wh = false →
    ((x = none ∧ mayMeet0 l ms n r = true ∧ (lastWh l r).isSome = true) ∨ ∃ k, x = some k ∧ k < n ∧ mayMeet l ms n r k = true ∧ isOwn (lastWh l r) k = false) → (r, x) ∈ floatsOf l ms n rs := by
  intro rs
  induction rs with
  | nil => intro h; simp at h
  | cons a rs ih =>
    intro hm h1 h2 hx
    simp only [floatsOf]
    rcases List.mem_cons.1 hm with rfl | hm
    · simp only [h1, h2, Bool.not_false, Bool.and_self, cond_true]
      refine List.mem_append_left _ ?_
      rcases hx with ⟨rfl, hx1, hx2⟩ | ⟨k, rfl, hk, hx1, hx2⟩
      · exact List.mem_append_left _ (by simp [hx1, hx2])
      · refine List.mem_append_right _ (List.mem_map.2 ⟨k, List.mem_filter.2 ⟨List.mem_range.2 hk, by simp [hx1, hx2]⟩, rfl⟩)
    · have := ih hm h1 h2 hx
      cases ((fpAt l a).rh && !(fpAt l a).wh) with
      | false => exact this
      | true => exact List.mem_append_right _ this
def FloatOK (call : CallT) (ops : List RO) (tr : List St) (h : H) (r : Nat) (x : Option Nat) : Prop :=
  ∀ s o, stAt tr r = some s → roAt ops r = some o → wantedG s.ts o.g = true → ∃ ls' h', evO call s.vs s.ts s.ls (heapAt tr h (match x with | none => 0 | some k => k + 1)) o.o = .ok s.v ls' h'
theorem floats_ok {h : H} : ∀ {fl : List (Nat × Option Nat)}, floats call l tr h fl = true → ∀ r x, (r, x) ∈ fl → FloatOK call l tr h r x := by
  intro fl
  induction fl with
  | nil => intro _ r x hm; simp at hm
  | cons a fl ih =>
    intro hf r x hm
    obtain ⟨r0, x0⟩ := a
    simp only [floats, Bool.and_eq_true] at hf
    rcases List.mem_cons.1 hm with hm | hm
    · cases hm
      intro s o hs ho hw
      have h1 := hf.1
      simp only [hs, ho, hw, cond_true] at h1
      split at h1
      · rename_i v ls' h' he
        have := veq_ok h1
        subst this
        exact ⟨ls', h', he⟩
      · cases h1
    · exact ih hf.2 r x hm
/-- what is read floats no further than was looked at -/
theorem float_read (R : Reg T call kd ops l tr e) (hst : ∀ i ro, roAt l i = some ro → stAt tr i = some (stF tr e i)) (hfl : ∀ r x, (r, x) ∈ floatsOf l (masks ops.toList []) ops.size (List.range ops.size) → FloatOK call l tr e.h r x)
    {L : Nat → Bool} (hC : Closed ops L) {i : Nat} {o : Oper} (hi : ops[i]? = some o) (hnL : L i = false) (hr : ∀ e ∈ o.after, Region.binds .any e = true → L e.on = true) :
    (fpAt l i).rh = true → (fpAt l i).wh = false → ∀ ro, roAt l i = some ro → wantedG (stF tr e i).ts ro.g = true → ∃ ls' h', evO call (stF tr e i).vs (stF tr e i).ts (stF tr e i).ls (hV ops l tr e L) ro.o = .ok (stF tr e i).v ls' h' := by
  intro hrh hwh ro hro hwt
  have hin : i < ops.size := (Array.getElem?_eq_some_iff.1 hi).1
  have hev : evO call (stF tr e i).vs (stF tr e i).ts (stF tr e i).ls (stF tr e i).h ro.o = .ok (stF tr e i).v (stF tr e (i + 1)).ls (stF tr e (i + 1)).h := by
    rcases (R.st i ro hro).ev with ⟨_, h⟩ | ⟨h, _⟩
    · exact h
    · rw [h] at hwt; cases hwt
  obtain ⟨_, _, f3, _⟩ := R.facts i (by omega)
  have own : hV ops l tr e L = (stF tr e i).h → ∃ ls' h', evO call (stF tr e i).vs (stF tr e i).ts (stF tr e i).ls (hV ops l tr e L) ro.o = .ok (stF tr e i).v ls' h' := fun h => ⟨_, _, by rw [h]; exact hev⟩
  have look : ∀ x : Option Nat, (i, x) ∈ floatsOf l (masks ops.toList []) ops.size (List.range ops.size) → hV ops l tr e L = heapAt tr e.h (match x with | none => 0 | some k => k + 1) →
      ∃ ls' h', evO call (stF tr e i).vs (stF tr e i).ts (stF tr e i).ls (hV ops l tr e L) ro.o = .ok (stF tr e i).v ls' h' := fun x hm hh => by
    rw [hh]
    exact hfl i x hm _ _ (hst i ro hro) hro hwt
  unfold hV at f3
  rw [lastP_pre (by omega), ← lastWh_eq] at f3
  cases hl : lastP (fun k => L k && wH l k) ops.size with
  | none =>
    have hno := lastP_none hl
    have hhv : hV ops l tr e L = (stF tr e 0).h := by unfold hV; rw [hl]
    cases hw : lastWh l i with
    | none => rw [hw] at f3; exact own (by rw [hhv, f3])
    | some y =>
      refine look none (mem_floats (List.mem_range.2 hin) hrh hwh (.inl ⟨rfl, ?_, by rw [hw]; rfl⟩)) (by rw [hhv, heapAt_eq])
      simp only [mayMeet0, List.all_eq_true, List.mem_range]
      intro y hy
      cases hb : ((fpAt l y).wh && Nat.testBit ((masks ops.toList []).getD i 0) y) with
      | false => rfl
      | true =>
        simp only [Bool.and_eq_true] at hb
        have hLy := anc_listed hC hi hr hb.2
        have := hno y hy
        simp [hLy, wH, hb.1] at this
  | some x =>
    obtain ⟨h1, h2, h3⟩ := lastP_some hl
    simp only [Bool.and_eq_true] at h2
    have hhv : hV ops l tr e L = (stF tr e (x + 1)).h := by unfold hV; rw [hl]
    cases hown : isOwn (lastWh l i) x with
    | true =>
      cases hw : lastWh l i with
      | none => rw [hw] at hown; simp [isOwn] at hown
      | some y =>
        rw [hw] at hown f3
        have : x = y := by simpa [isOwn, Nat.beq_eq] using hown
        subst this
        exact own (by rw [hhv, f3])
    | false =>
      refine look (some x) (mem_floats (List.mem_range.2 hin) hrh hwh (.inr ⟨x, rfl, h1, ?_, hown⟩)) (by rw [hhv, heapAt_eq])
      have hx0 : ops[x]? = some ops[x] := by simp [h1]
      simp only [mayMeet, Bool.and_eq_true, Bool.or_eq_true, List.all_eq_true, List.mem_range]
      refine ⟨h2.2, ?_, ?_⟩
      · cases hb : Nat.testBit ((masks ops.toList []).getD x 0) i with
        | false => rfl
        | true =>
          have := anc_listed hC hx0 (fun e' q1 q2 => hC x _ h2.1 hx0 e' q1 q2) hb
          rw [hnL] at this
          cases this
      · intro y hy
        by_cases hb : ((fpAt l y).wh && Nat.testBit ((masks ops.toList []).getD i 0) y) = true
        · right
          simp only [Bool.and_eq_true] at hb
          have hLy := anc_listed hC hi hr hb.2
          refine Nat.ble_eq_true_of_le ?_
          rcases Nat.lt_or_ge x y with hlt | hge
          · have := h3 y hlt hy
            simp [hLy, wH, hb.1] at this
          · exact hge
        · left
          rw [show ((fpAt l y).wh && Nat.testBit ((masks ops.toList []).getD i 0) y) = false from Bool.eq_false_iff.2 hb]
          rfl
theorem backs_ok (h : backs ops = true) {j : Nat} {o : Oper} (hj : ops[j]? = some o) {e : Edge} (he : e ∈ o.after) (hb : Region.binds .any e = true) : e.on < j := by
  simp only [backs, List.all_eq_true, List.mem_range] at h
  have := h j (Array.getElem?_eq_some_iff.1 hj).1
  rw [hj] at this
  simp only [List.all_eq_true] at this
  have := this e (by simpa using he)
  rw [hb] at this
  simpa using this

/-- a region in its order -/
theorem reg_wp (hT : TOk P T) (hcall : CallOK P call) (R : Reg T call kd ops l tr e) {N : Nat} (hN : kd.length ≤ N) {μ0 : Mp} {h0 : H} {w0 : World} {w₀ : Nat} {Q : Exit → Act → World → Prop} (hQ : LetsOutT Q)
    (hE : ∀ a w, Inv T kd ops l tr e N μ0 h0 w0 w₀ (pre ops.size) a w → Q .normal a w) : ∀ m i, i + m = ops.size → ∀ a w, Inv T kd ops l tr e N μ0 h0 w0 w₀ (pre i) a w → wpOps P ops Q (List.range' i m) a w := by
  intro m
  induction m with
  | zero => intro i hi a w hI; simp at hi; subst hi; exact hE a w hI
  | succ m ih =>
    intro i hi a w hI
    rw [List.range'_succ, wpOps_cons]
    have hin : i < ops.size := by omega
    have ho : ops[i]? = some ops[i] := by simp [hin]
    have G : Good ops l (pre i) i := fun k hk hki x y _ _ _ => rfl
    obtain ⟨_, _, f3, _⟩ := R.facts i (by omega)
    refine Inv.step hT hcall R ho G (by simp [pre]) hN (fun _ _ ro hro hwt => ?_) hI (fun a w h => ih (i + 1) (by omega) a w (by rw [pre_succ]; exact h)) hQ
    rcases (R.st i ro hro).ev with ⟨_, h⟩ | ⟨h, _⟩
    · exact ⟨_, _, by rw [← f3]; exact h⟩
    · rw [h] at hwt; cases hwt
theorem set_ext {listed : Array Bool} {i : Nat} (hi : i < listed.size) : (fun k => (listed.setIfInBounds i true).getD k false) = ext (fun k => listed.getD k false) i := by
  funext k
  simp only [ext]
  by_cases e : k = i
  · subst e; simp [hi]
  · simp [e, Ne.symm e]
theorem cnt_set {listed : Array Bool} {i : Nat} (hi : i < listed.size) (h : listed.getD i true = false) : (listed.setIfInBounds i true).toList.countP (! ·) + 1 = listed.toList.countP (! ·) := by
  have hg : listed[i] = false := by simpa [hi] using h
  have hl : i < listed.toList.length := by simpa using hi
  have hpos : 0 < listed.toList.countP (! ·) := List.countP_pos_iff.2 ⟨false, by rw [← hg]; simp, rfl⟩
  rw [Array.toList_setIfInBounds, List.countP_set hl]
  have e1 : listed.toList[i] = false := by simpa using hg
  rw [e1]
  simp only [Bool.not_false, Bool.not_true, if_true, Bool.false_eq_true, if_false, Nat.add_zero]
  omega
/-- a region in any order -/
theorem any_wp (hT : TOk P T) (hcall : CallOK P call) (R : Reg T call kd ops l tr e) (hst : ∀ i ro, roAt l i = some ro → stAt tr i = some (stF tr e i)) (hfl : ∀ r x, (r, x) ∈ floatsOf l (masks ops.toList []) ops.size (List.range ops.size) → FloatOK call l tr e.h r x)
    (ho : ordered ops l (masks ops.toList []) ops.size = true) (hb : backs ops = true)
    {N : Nat} (hN : kd.length ≤ N) {μ0 : Mp} {h0 : H} {w0 : World} {w₀ : Nat} {Q : Exit → Act → World → Prop} (hQ : LetsOutT Q)
    (hE : ∀ L a w, (∀ k < ops.size, L k = true) → Inv T kd ops l tr e N μ0 h0 w0 w₀ L a w → Q .normal a w) :
    ∀ fuel (listed : Array Bool) a w, listed.size = ops.size → listed.toList.countP (! ·) ≤ fuel → Closed ops (fun k => listed.getD k false) → Inv T kd ops l tr e N μ0 h0 w0 w₀ (fun k => listed.getD k false) a w →
      wpAny P .any ops Q fuel listed a w := by
  have done : ∀ (listed : Array Bool), listed.size = ops.size → Region.ready .any ops listed = [] → ∀ k < ops.size, listed.getD k false = true := by
    intro listed hs hr k
    induction k using Nat.strongRecOn with
    | _ k ih =>
      intro hk
      cases hg : listed.getD k false with
      | true => rfl
      | false =>
        exfalso
        have hm : k ∈ Region.ready .any ops listed := mem_ready.2 ⟨by
          have hks : k < listed.size := by omega
          simp [hks] at hg ⊢
          exact hg, ops[k], by simp [hk], fun e' he' hbi => ih e'.on (backs_ok hb (by simp [hk]) he' hbi) (by have := backs_ok hb (show ops[k]? = some ops[k] by simp [hk]) he' hbi; omega)⟩
        rw [hr] at hm
        cases hm
  intro fuel
  induction fuel with
  | zero =>
    intro listed a w hs hc hC hI
    have hr : Region.ready .any ops listed = [] := by
      cases hr : Region.ready .any ops listed with
      | nil => rfl
      | cons x xs =>
        exfalso
        have hm : x ∈ Region.ready .any ops listed := by rw [hr]; simp
        obtain ⟨h1, o, h2, _⟩ := mem_ready.1 hm
        have hx : x < listed.size := by rw [hs]; exact (Array.getElem?_eq_some_iff.1 h2).1
        have := cnt_set hx h1
        omega
    exact ⟨hr, hE _ a w (done listed hs hr) hI⟩
  | succ fuel ih =>
    intro listed a w hs hc hC hI
    refine ⟨fun hr => hE _ a w (done listed hs hr) hI, fun i hi => ?_⟩
    obtain ⟨h1, o, h2, h3⟩ := mem_ready.1 hi
    have hx : i < listed.size := by rw [hs]; exact (Array.getElem?_eq_some_iff.1 h2).1
    have hnL : listed.getD i false = false := by simp [hx] at h1 ⊢; exact h1
    have hcs := cnt_set hx h1
    have G := good_of ho hC h2 hnL h3
    refine Inv.step hT hcall R h2 G hnL hN (float_read R hst hfl hC h2 hnL h3) hI (fun a w h => ih (listed.setIfInBounds i true) a w (by simpa using hs) (by omega) ?_ (by rw [set_ext hx]; exact h)) hQ
    rw [set_ext hx]
    intro k ok hk hok e' he' hbi
    simp only [ext, Bool.or_eq_true, decide_eq_true_eq] at hk ⊢
    left
    rcases hk with hk | rfl
    · exact hC k ok hk hok e' he' hbi
    · rw [h2] at hok; cases hok; exact h3 e' he' hbi
end
end Am
namespace Am
open Go
variable {P : Program} {T : TT} {call : CallT}
section
variable {kd : List Kd} {N : Nat} {μ0 : Mp} {h0 : H} {w0 : World} {w₀ : Nat}
structure KInv (kd : List Kd) (N : Nat) (μ0 : Mp) (h0 : H) (w0 : World) (w₀ : Nat) (c : Ctx) (vs ts : List V) (ls : Ls) (h : H) (a : Act) (w : World) : Prop where
  ex : ∃ μ κ, HRel μ h w ∧ LRel μ κ ls h w w₀ ∧ w₀ ≤ w.heap.size ∧ FrW w₀ μ0 h0 w0 μ h w ∧
    (∀ (t j : Nat), kd[t]? = some (Kd.v j) → VRel μ (lget vs j) (a.tmps.getD t Go.undef)) ∧
    (∀ (t s : Nat) cs, kd[t]? = some (Kd.l s) → slot ls s = some cs → ∃ b, κ s = some b ∧ a.tmps.getD t Go.undef = .pointer (some ⟨b, 0, none⟩)) ∧
    ∀ t d, findD t c.ds 0 = some d → rtAt c.rt d = none → VRel μ (lget ts d) (a.tmps.getD t Go.undef)
  df : a.defers = []
  sz : a.tmps.size = N
  vl : ∀ (t j : Nat), kd[t]? = some (Kd.v j) → j < vs.length
theorem KInv.weak {c : Ctx} {vs ts ts' : List V} {ls : Ls} {h : H} {a : Act} {w : World} (I : KInv kd N μ0 h0 w0 w₀ c vs ts ls h a w) : KInv kd N μ0 h0 w0 w₀ ⟨[], []⟩ vs ts' ls h a w := by
  obtain ⟨⟨μ, κ, h1, h2, h3, h4, h5, h6, _⟩, b, c, d⟩ := I
  exact ⟨⟨μ, κ, h1, h2, h3, h4, h5, h6, by simp [findD]⟩, b, c, d⟩
def Post (kd : List Kd) (N : Nat) (μ0 : Mp) (h0 : H) (w0 : World) (w₀ : Nat) (c : Ctx) (ex : Ex) (vs ts : List V) (ls : Ls) (h : H) : Exit → Act → World → Prop
  | .normal, a, w => ex = .n ∧ KInv kd N μ0 h0 w0 w₀ c vs ts ls h a w
  | .exit id, a, w => ex = .x id ∧ KInv kd N μ0 h0 w0 w₀ ⟨[], []⟩ vs ts ls h a w
  | .ret, a, w => ex = .r ∧ KInv kd N μ0 h0 w0 w₀ ⟨[], []⟩ vs ts ls h a w
  | .outgrown, _, _ => False
  | _, _, _ => False
/-- the names are all different -/
structure Named (kd : List Kd) : Prop where
  injV : ∀ (t t' j : Nat), kd[t]? = some (Kd.v j) → kd[t']? = some (Kd.v j) → t = t'
  injL : ∀ (t t' s : Nat) (a b : Bool), slotOf kd (some t) = some (s, a) → slotOf kd (some t') = some (s, b) → t = t'
theorem compR_end : ∀ {r : List Oper} {n : Nat} {c c' : Ctx} {l : List RO}, compR T kd r n c = some (l, c') → c' = cxAt T kd r c r.length := by
  intro r
  induction r with
  | nil => intro n c c' l h; simp [compR] at h; rw [← h.2]; rfl
  | cons a r ih =>
    intro n c c' l h
    simp only [compR] at h
    split at h
    · rename_i g d hg hd
      cases hb : (!(dstOk kd a && rtOk d (compO T kd c a).2)) with
      | true => rw [hb] at h; simp at h
      | false =>
      rw [hb] at h
      simp only [cond_false] at h
      split at h
      · rename_i l2 c2 h2
        cases h
        simp only [List.length_cons, cxAt]
        exact ih h2
      · cases h
    · cases h
theorem ls_ext : ∀ {ls ls' : Ls}, ls.length = ls'.length → (∀ s, slot ls s = slot ls' s) → ls = ls' := by
  intro ls
  induction ls with
  | nil => intro ls' h _; cases ls' <;> simp at h; rfl
  | cons a ls ih =>
    intro ls' h hs
    cases ls' with
    | nil => simp at h
    | cons b ls' =>
      have h0 := hs 0
      simp [slot] at h0
      rw [h0, ih (by simpa using h) fun s => hs (s + 1)]
section
variable {ops : Array Oper} {l : List RO} {tr : List St} {e : St}
/-- a region begins -/
theorem KInv.enter {c : Ctx} {vs ts : List V} {ls : Ls} {h : H} {a : Act} {w : World} (I : KInv kd N μ0 h0 w0 w₀ c vs ts ls h a w) (e1 : (stF tr e 0).vs = vs) (e3 : (stF tr e 0).ls = ls) (e4 : (stF tr e 0).h = h)
    {L : Nat → Bool} (hL : ∀ k, L k = false) : Inv T kd ops l tr e N μ0 h0 w0 w₀ L a w := by
  obtain ⟨⟨μ, κ, h1, h2, h3, h4, h5, h6, _⟩, b, c, d⟩ := I
  have np : ∀ w : Nat → Bool, lastP (fun k => L k && w k) ops.size = none := fun w => lastP_not fun k _ => by simp [hL]
  have hh : hV ops l tr e L = h := by unfold hV; rw [np]; exact e4
  refine ⟨⟨μ, κ, ls, by rw [hh]; exact h1, by rw [hh]; exact h2, h3, by rw [hh]; exact h4, fun s => ?_, by rw [e3], ⟨fun t j hj => ?_, h6, fun k t o hk => by rw [hL] at hk; cases hk⟩⟩, b, c⟩
  · unfold lV; rw [np]; rw [e3]
  · unfold vV; rw [np]; rw [e1]; exact h5 t j hj
/-- a region ends -/
theorem Inv.leave (R : Reg T call kd ops l tr e) (hn : ∀ i, roAt l i = none → stF tr e i = e) {c' : Ctx} (hc : compR T kd ops.toList 0 ⟨[], []⟩ = some (l, c')) {L : Nat → Bool} (hL : ∀ k < ops.size, L k = true) {a : Act} {w : World}
    (I : Inv T kd ops l tr e N μ0 h0 w0 w₀ L a w) : KInv kd N μ0 h0 w0 w₀ c' e.vs e.ts e.ls e.h a w := by
  have hend : stF tr e ops.size = e := hn _ (compR_out hc _ (by simp))
  obtain ⟨f1, f2, f3, f4, f5, f6, f7⟩ := R.facts ops.size (Nat.le_refl _)
  rw [hend] at f1 f2 f3 f4 f5 f6 f7
  have same : ∀ w : Nat → Bool, lastP (fun k => L k && w k) ops.size = lastP (fun k => pre ops.size k && w k) ops.size := fun w => lastP_congr fun k hk => by simp [hL k hk, pre, hk]
  obtain ⟨⟨μ, κ, ls, h1, h2, h3, h4, h5, h6, B⟩, b, c⟩ := I
  have hh : hV ops l tr e L = e.h := by rw [f3]; unfold hV; rw [same]
  have hl : ls = e.ls := ls_ext (by rw [h6, f5]) fun s => by rw [h5, f4]; unfold lV; rw [same]
  subst hl
  rw [hh] at h1 h2 h4
  refine ⟨⟨μ, κ, h1, h2, h3, h4, fun t j hj => ?_, B.locs, fun t d hf hrt => ?_⟩, b, c, fun t j hj => by rw [f1]; exact R.hv t j hj⟩
  · rw [f2 t j hj]
    have := B.vars t j hj
    unfold vV at this ⊢
    rw [same] at this
    exact this
  · rw [compR_end hc] at hf hrt
    have hlen : ops.toList.length = ops.size := by simp
    rw [hlen] at hf hrt
    obtain ⟨_, g2, g3⟩ := findD_some hf
    simp only [Nat.sub_zero] at g2 g3
    have hd : d < ops.size := by
      have := (List.getElem?_eq_some_iff.1 g2).1
      rw [(cxAt_len (by simp)).1] at this
      simpa using this
    have hk : ops.size - 1 - d < ops.size := by omega
    obtain ⟨ok, hok⟩ : ∃ ok, ops[ops.size - 1 - d]? = some ok := ⟨ops[ops.size - 1 - d], by simp [hk]⟩
    have hb := cxAt_back (T := T) (kd := kd) (r := ops.toList) (c := ⟨[], []⟩) (i := ops.size) (by simp) hk (by simpa using hok)
    rw [show ops.size - 1 - (ops.size - 1 - d) = d by omega] at hb
    rw [hb.1] at g2
    simp only [Option.some.injEq] at g2
    have hdst : ok.dst = some t ∧ dstT kd (some t) = some t := by
      cases hx : ok.dst with
      | none => rw [hx] at g2; simp [dstT] at g2
      | some u =>
        rw [hx] at g2
        have := dstT_self g2
        subst this
        exact ⟨rfl, g2⟩
    have := B.tmps (ops.size - 1 - d) t ok (hL _ hk) hok hdst.1 hdst.2 (fun k' hk' hlt _ => by
      by_cases hw : wT ops t k' = true
      · exfalso
        obtain ⟨o', ho'⟩ : ∃ o', ops[k']? = some o' := ⟨ops[k'], by simp [hk']⟩
        simp only [wT, ho', decide_eq_true_eq] at hw
        have hb' := cxAt_back (T := T) (kd := kd) (r := ops.toList) (c := ⟨[], []⟩) (i := ops.size) (by simp) hk' (by simpa using ho')
        rw [hw, hdst.2] at hb'
        exact g3 (ops.size - 1 - k') (by omega) hb'.1
      · simpa using hw)
    rw [rtAt_eq, hb.2] at hrt
    simp only [Option.getD_some] at hrt
    rw [show cxAt T kd ops.toList ⟨[], []⟩ (ops.size - 1 - d) = cxI T kd ops (ops.size - 1 - d) from rfl] at hrt
    rw [hrt] at this
    simp only [RR] at this
    have e1 := f7 _ hk
    rw [show ops.size - 1 - (ops.size - 1 - d) = d by omega] at e1
    rw [e1]
    exact this
end
theorem KInv.drew {c : Ctx} {vs ts : List V} {ls : Ls} {h : H} {a : Act} {w : World} (I : KInv kd N μ0 h0 w0 w₀ c vs ts ls h a w) : KInv kd N μ0 h0 w0 w₀ c vs ts ls h a w.drew := by
  obtain ⟨⟨μ, κ, h1, h2, h3, h4, h5, h6, h7⟩, b, c, d⟩ := I
  exact ⟨⟨μ, κ, h1.drew, h2.frame Fr.drew, h3, h4.trans (Fr.drew.weak h3), h5, h6, h7⟩, b, c, d⟩
end
end Am
namespace Am
open Go
variable {P : Program} {T : TT} {call : CallT}
section
variable {kd : List Kd} {N : Nat} {μ0 : Mp} {h0 : H} {w0 : World} {w₀ : Nat}
theorem KInv.cond {c : Ctx} {vs ts : List V} {ls : Ls} {h : H} {a : Act} {w : World} (I : KInv kd N μ0 h0 w0 w₀ c vs ts ls h a w) {x : Operand} {X : Am.X} (hX : opd kd c x = some X) {t : Bool} (hb : getX vs ts X = .b t) : a.eval x = .bool t := by
  obtain ⟨⟨μ, κ, h1, h2, h3, h4, h5, h6, h7⟩, _, _, _⟩ := I
  have fin : ∀ y, VRel μ (getX vs ts X) y → y = .bool t := by
    intro y hy
    rw [hb] at hy
    cases hy; rfl
  cases x with
  | tmp u =>
    simp only [opd] at hX
    split at hX
    · rename_i j hj
      cases hX
      exact fin _ (h5 u j hj)
    all_goals try (cases hX; done)
    all_goals
      split at hX
      · rename_i d hd
        split at hX
        · rename_i hrt
          cases hX
          exact fin _ (h7 u d hd hrt)
        · cases hX
      · cases hX
  | const v =>
    simp only [opd] at hX
    split at hX
    · rename_i z hz
      cases hX
      exact fin _ (ofVal_ok v hz μ)
    · cases hX
  | func f => cases hX; cases hb
  | global g => cases hX
theorem LetsOut.post {c : Ctx} {ex : Ex} {vs ts : List V} {ls : Ls} {h : H} (_ : Act) (_ : World) : LetsOutT (Post kd N μ0 h0 w0 w₀ c ex vs ts ls h) := trivial
theorem region_wp (hT : TOk P T) (hcall : CallOK P call) (hm : P.follows .mixedOrders = true) (hnm : Named kd) (hN : kd.length ≤ N) {id : Nat} {ops : Array Oper} {draw : Bool} {n : Nat} {c : Ctx} {vs ts : List V} {ls : Ls} {h : H} {a : Act} {w : World}
    {ex : Ex} {vs' ts' : List V} {ls' : Ls} {h' : H} (he : evK call n (compK T kd (.region id ops draw) c).1 vs ts ls h = .ok ex vs' ts' ls' h') (I : KInv kd N μ0 h0 w0 w₀ c vs ts ls h a w) :
    (Code.region id ops draw).wp P (Post kd N μ0 h0 w0 w₀ (compK T kd (.region id ops draw) c).2 ex vs' ts' ls' h') a w := by
  simp only [compK] at he ⊢
  cases hc : compR T kd ops.toList 0 ⟨[], []⟩ with
  | none => simp [hc, evK] at he
  | some p =>
  obtain ⟨l, c'⟩ := p
  simp only [hc] at he ⊢
  -- the way through
  have main : ∀ tr, evTr call l vs [] ls h = .ok tr vs' ts' ls' h' → ex = .n → (draw = true → ordered ops l (masks ops.toList []) ops.size = true ∧ backs ops = true ∧ ∀ r x, (r, x) ∈ floatsOf l (masks ops.toList []) ops.size (List.range ops.size) → FloatOK call l tr h' r x) →
      (Code.region id ops draw).wp P (Post kd N μ0 h0 w0 w₀ c' ex vs' ts' ls' h') a w := by
    intro tr htr hex hd
    subst hex
    let e : St := ⟨vs', ts', ls', h', undef⟩
    obtain ⟨s1, s2, s3, s4, s5, s6, s7⟩ := evTr_spec (e := e) htr
    have R : Reg T call kd ops l tr e := ⟨⟨c', hc⟩, s5, s2, fun t j hj => by rw [s1]; exact I.vl t j hj, hnm.injV, hnm.injL⟩
    have hE : ∀ L a w, (∀ k < ops.size, L k = true) → Inv T kd ops l tr e N μ0 h0 w0 w₀ L a w → Post kd N μ0 h0 w0 w₀ c' .n vs' ts' ls' h' .normal a w :=
      fun L a w hL hI => ⟨rfl, hI.leave R s6 hc hL⟩
    cases draw with
    | false =>
      refine wp_region ?_
      rw [List.range_eq_range']
      exact reg_wp hT hcall R hN (LetsOut.post a w) (fun a w hI => hE _ a w (fun k hk => by simp [pre, hk]) hI) ops.size 0 (by omega) a w (I.enter s1 s3 s4 fun k => by simp [pre])
    | true =>
      obtain ⟨d1, d2, d3⟩ := hd rfl
      refine wp_region_any hm ?_
      refine any_wp hT hcall R s7 d3 d1 d2 hN (LetsOut.post a w) hE ops.size _ a _ (by simp) (Nat.le_trans List.countP_le_length (by simp)) (fun k o hk => ?_) (I.drew.enter s1 s3 s4 fun k => ?_)
      · simp at hk
        by_cases hks : k < ops.size <;> simp [hks] at hk
      · by_cases hks : k < ops.size <;> simp [hks]
  cases draw with
  | false =>
    simp only [cond_false, evK] at he
    obtain ⟨⟨tr, htr⟩, hex⟩ := evTr_of he
    exact main tr htr hex (by simp)
  | true =>
    cases ho : (ordered ops l (masks ops.toList []) ops.size && backs ops) with
    | false => rw [ho] at he; simp [evK] at he
    | true =>
    rw [ho] at he
    rw [Bool.and_eq_true] at ho
    simp only [cond_true, evK] at he
    split at he
    · rename_i hfl
      obtain ⟨⟨tr, htr⟩, hex⟩ := evTr_of he
      exact main tr htr hex fun _ => ⟨ho.1, ho.2, fun r x hm => by rw [hfl] at hm; cases hm⟩
    · rename_i f fs hfl
      split at he
      · rename_i tr vs1 ts1 ls1 h1 htr
        cases hf : floats call l tr h1 (floatsOf l (masks ops.toList []) ops.size (List.range ops.size)) with
        | false => rw [hf] at he; simp at he
        | true =>
        rw [hf] at he
        simp only [cond_true, CR.ok.injEq] at he
        obtain ⟨rfl, rfl, rfl, rfl, rfl⟩ := he
        exact main tr htr rfl fun _ => ⟨ho.1, ho.2, floats_ok hf⟩
      · cases he
/-- the code does what is evaluated -/
theorem code_wp (hT : TOk P T) (hcall : CallOK P call) (hm : P.follows .mixedOrders = true) (hnm : Named kd) (hN : kd.length ≤ N) (n : Nat) : ∀ (code : Code) (c : Ctx) (vs ts : List V) (ls : Ls) (h : H) (a : Act) (w : World)
    (ex : Ex) (vs' ts' : List V) (ls' : Ls) (h' : H), evK call n (compK T kd code c).1 vs ts ls h = .ok ex vs' ts' ls' h' → KInv kd N μ0 h0 w0 w₀ c vs ts ls h a w →
    code.wp P (Post kd N μ0 h0 w0 w₀ (compK T kd code c).2 ex vs' ts' ls' h') a w := by
  intro code
  induction code with
  | skip =>
    intro c vs ts ls h a w ex vs' ts' ls' h' he I
    simp only [compK, evK, CR.ok.injEq] at he
    obtain ⟨rfl, rfl, rfl, rfl, rfl⟩ := he
    exact wp_skip ⟨rfl, I⟩
  | region id ops draw => intro c vs ts ls h a w ex vs' ts' ls' h' he I; exact region_wp hT hcall hm hnm hN he I
  | seq x y ihx ihy =>
    intro c vs ts ls h a w ex vs' ts' ls' h' he I
    simp only [compK, evK] at he ⊢
    refine wp_seq ?_
    cases h1 : evK call n (compK T kd x c).1 vs ts ls h with
    | no => rw [h1] at he; simp at he
    | ok ex1 vs1 ts1 ls1 h1' =>
      have hx := ihx c vs ts ls h a w _ _ _ _ _ h1 I
      refine wp_mono hx fun e a1 w1 hq => ?_
      rw [h1] at he
      cases ex1 with
      | n =>
        simp only at he
        cases e with
        | normal => exact ihy _ _ _ _ _ a1 w1 _ _ _ _ _ he hq.2
        | exit id => cases hq.1
        | ret => cases hq.1
        | outgrown => exact hq.elim
        | goto l => exact hq
        | panic ch => exact hq
      | x i =>
        simp only [CR.ok.injEq] at he
        obtain ⟨rfl, rfl, rfl, rfl, rfl⟩ := he
        cases e with
        | normal => cases hq.1
        | exit id => exact hq
        | ret => exact hq
        | outgrown => exact hq.elim
        | goto l => exact hq
        | panic ch => exact hq
      | r =>
        simp only [CR.ok.injEq] at he
        obtain ⟨rfl, rfl, rfl, rfl, rfl⟩ := he
        cases e with
        | normal => cases hq.1
        | exit id => exact hq
        | ret => exact hq
        | outgrown => exact hq.elim
        | goto l => exact hq
        | panic ch => exact hq
  | cond t x y ihx ihy =>
    intro c vs ts ls h a w ex vs' ts' ls' h' he I
    simp only [compK] at he ⊢
    cases hX : opd kd c t with
    | none => simp [hX, evK] at he
    | some X =>
    simp only [hX, evK] at he ⊢
    split at he
    · rename_i b hb
      refine wp_cond (I.cond hX hb) ?_
      have weak : ∀ c2 e a w, Post kd N μ0 h0 w0 w₀ c2 ex vs' ts' ls' h' e a w → Post kd N μ0 h0 w0 w₀ ⟨[], []⟩ ex vs' ts' ls' h' e a w := by
        intro c2 e a w hq
        cases e with
        | normal => exact ⟨hq.1, hq.2.weak⟩
        | _ => exact hq
      cases b with
      | true => exact wp_mono (ihx c _ _ _ _ a w _ _ _ _ _ he I) (weak _)
      | false => exact wp_mono (ihy c _ _ _ _ a w _ _ _ _ _ he I) (weak _)
    · cases he
  | block id b ih =>
    intro c vs ts ls h a w ex vs' ts' ls' h' he I
    simp only [compK, evK] at he ⊢
    refine wp_block ?_
    cases h1 : evK call n (compK T kd b c).1 vs ts ls h with
    | no => rw [h1] at he; simp at he
    | ok ex1 vs1 ts1 ls1 h1' =>
      refine wp_mono (ih c vs ts ls h a w _ _ _ _ _ h1 I) fun e a1 w1 hq => ?_
      rw [h1] at he
      cases ex1 with
      | n =>
        simp only [CR.ok.injEq] at he
        obtain ⟨rfl, rfl, rfl, rfl, rfl⟩ := he
        cases e with
        | normal => exact ⟨rfl, hq.2.weak⟩
        | exit id => cases hq.1
        | ret => cases hq.1
        | outgrown => exact hq.elim
        | goto l => exact hq
        | panic ch => exact hq
      | x i =>
        simp only at he
        cases e with
        | normal => cases hq.1
        | exit id' =>
          obtain ⟨q1, q2⟩ := hq
          cases q1
          simp only [Exit.inBlock]
          cases hb : Nat.beq i id with
          | true =>
            rw [hb] at he
            have : i = id := by simpa [Nat.beq_eq] using hb
            simp only [cond_true, CR.ok.injEq] at he
            obtain ⟨rfl, rfl, rfl, rfl, rfl⟩ := he
            rw [if_pos this]
            exact ⟨rfl, q2.weak⟩
          | false =>
            rw [hb] at he
            have : i ≠ id := by intro e; subst e; simp [Nat.beq_refl] at hb
            simp only [cond_false, CR.ok.injEq] at he
            obtain ⟨rfl, rfl, rfl, rfl, rfl⟩ := he
            rw [if_neg this]
            exact ⟨rfl, q2⟩
        | ret => cases hq.1
        | outgrown => exact hq.elim
        | goto l => exact hq
        | panic ch => exact hq
      | r =>
        simp only [CR.ok.injEq] at he
        obtain ⟨rfl, rfl, rfl, rfl, rfl⟩ := he
        cases e with
        | normal => cases hq.1
        | exit id => cases hq.1
        | ret => exact hq
        | outgrown => exact hq.elim
        | goto l => exact hq
        | panic ch => exact hq
  | loop b ih =>
    intro c vs ts ls h a w ex vs' ts' ls' h' he I
    simp only [compK, evK] at he ⊢
    have key : ∀ m vs ls h a w, iter (fun vs ls h => evK call n (compK T kd b ⟨[], []⟩).1 vs [] ls h) m vs ls h = .ok ex vs' ts' ls' h' → KInv kd N μ0 h0 w0 w₀ ⟨[], []⟩ vs [] ls h a w →
        ∀ (fb : Frame) (k : List Item) (cs : List Frame), ∃ e a' w', Post kd N μ0 h0 w0 w₀ ⟨[], []⟩ ex vs' ts' ls' h' e a' w' ∧ Arrives P (lone (fb.at a (.code b :: .inLoop b :: k)) cs w) fb k cs e a' w' := by
      intro m
      induction m with
      | zero => intro vs ls h a w he; simp [iter] at he
      | succ m ihm =>
        intro vs ls h a w he I fb k cs
        simp only [iter] at he
        cases h1 : evK call n (compK T kd b ⟨[], []⟩).1 vs [] ls h with
        | no => rw [h1] at he; simp at he
        | ok ex1 vs1 ts1 ls1 h1' =>
          rw [h1] at he
          obtain ⟨e, a₁, w₁, hq, harr⟩ := ih ⟨[], []⟩ vs [] ls h a w _ _ _ _ _ h1 I fb (.inLoop b :: k) cs
          cases ex1 with
          | n =>
            simp only at he
            cases e with
            | normal =>
              obtain ⟨e₂, a₂, w₂, hq₂, harr₂⟩ := ihm _ _ _ a₁ w₁ he hq.2.weak fb k cs
              exact ⟨e₂, a₂, w₂, hq₂, .of_steps (Steps.trans harr (.one step_inLoop)) harr₂⟩
            | exit id => cases hq.1
            | ret => cases hq.1
            | outgrown => exact hq.elim
            | goto l => exact hq.elim
            | panic ch => exact hq.elim
          | x i =>
            simp only [CR.ok.injEq] at he
            obtain ⟨rfl, rfl, rfl, rfl, rfl⟩ := he
            cases e with
            | normal => cases hq.1
            | exit id => exact ⟨.exit id, a₁, w₁, hq, .pass (x := .inLoop b) rfl (fun _ _ => .inl (by simp)) harr⟩
            | ret => cases hq.1
            | outgrown => exact hq.elim
            | goto l => exact hq.elim
            | panic ch => exact hq.elim
          | r =>
            simp only [CR.ok.injEq] at he
            obtain ⟨rfl, rfl, rfl, rfl, rfl⟩ := he
            cases e with
            | normal => cases hq.1
            | exit id => cases hq.1
            | ret => exact ⟨.ret, a₁, w₁, hq, .pass (x := .inLoop b) rfl (fun _ _ => .inl (by simp)) harr⟩
            | outgrown => exact hq.elim
            | goto l => exact hq.elim
            | panic ch => exact hq.elim
    intro fb k cs
    obtain ⟨e, a', w', hq, harr⟩ := key n vs ls h a w he I.weak fb k cs
    exact ⟨e, a', w', hq, .of_steps (.one step_loop) harr⟩
  | exit id =>
    intro c vs ts ls h a w ex vs' ts' ls' h' he I
    simp only [compK, evK, CR.ok.injEq] at he
    obtain ⟨rfl, rfl, rfl, rfl, rfl⟩ := he
    exact wp_exit ⟨rfl, I.weak⟩
  | ret =>
    intro c vs ts ls h a w ex vs' ts' ls' h' he I
    simp only [compK, evK, CR.ok.injEq] at he
    obtain ⟨rfl, rfl, rfl, rfl, rfl⟩ := he
    exact wp_ret ⟨rfl, I.weak⟩
  | _ => intro c vs ts ls h a w ex vs' ts' ls' h' he I; simp [compK, evK] at he
end
end Am
namespace Am
open Go
variable {P : Program} {T : TT} {call : CallT}
theorem number_v : ∀ {ks : List Nat} {v l t j : Nat}, (number ks v l)[t]? = some (Kd.v j) → j = v + countV ((number ks v l).take t) := by
  intro ks
  induction ks with
  | nil => intro v l t j h; simp [number] at h
  | cons k ks ih =>
    intro v l t j h
    match k, h with
    | 0, h =>
      cases t with
      | zero => simp [number] at h; simp [countV, h]
      | succ t => simp only [number, List.getElem?_cons_succ] at h; have := ih h; simp only [number, List.take_succ_cons, countV]; omega
    | 1, h =>
      cases t with
      | zero => simp [number] at h
      | succ t => simp only [number, List.getElem?_cons_succ] at h; have := ih h; simp only [number, List.take_succ_cons, countV]; omega
    | 2, h =>
      cases t with
      | zero => simp [number] at h
      | succ t => simp only [number, List.getElem?_cons_succ] at h; have := ih h; simp only [number, List.take_succ_cons, countV]; omega
    | k + 3, h =>
      cases t with
      | zero => simp [number] at h
      | succ t => simp only [number, List.getElem?_cons_succ] at h; have := ih h; simp only [number, List.take_succ_cons, countV]; omega
theorem number_l : ∀ {ks : List Nat} {v l t s : Nat} {b : Bool}, slotOf (number ks v l) (some t) = some (s, b) → s = l + countL ((number ks v l).take t) := by
  intro ks
  induction ks with
  | nil => intro v l t j b h; simp [slotOf, number] at h
  | cons k ks ih =>
    intro v l t j b h
    have tail : ∀ {x : Kd} {v l t : Nat}, slotOf (x :: number ks v l) (some (t + 1)) = slotOf (number ks v l) (some t) := fun {x v l t} => by simp [slotOf]
    match k, h with
    | 0, h =>
      cases t with
      | zero => simp [slotOf, number] at h
      | succ t => simp only [number, tail] at h; have := ih h; simp only [number, List.take_succ_cons, countL]; omega
    | 1, h =>
      cases t with
      | zero => simp [slotOf, number] at h; simp [countL, h.1]
      | succ t => simp only [number, tail] at h; have := ih h; simp only [number, List.take_succ_cons, countL]; omega
    | 2, h =>
      cases t with
      | zero => simp [slotOf, number] at h; simp [countL, h.1]
      | succ t => simp only [number, tail] at h; have := ih h; simp only [number, List.take_succ_cons, countL]; omega
    | k + 3, h =>
      cases t with
      | zero => simp [slotOf, number] at h
      | succ t => simp only [number, tail] at h; have := ih h; simp only [number, List.take_succ_cons, countL]; omega
theorem countV_app (a b : List Kd) : countV (a ++ b) = countV a + countV b := by
  induction a with
  | nil => simp [countV]
  | cons k a ih => cases k <;> simp [countV, ih] <;> omega
theorem countL_app (a b : List Kd) : countL (a ++ b) = countL a + countL b := by
  induction a with
  | nil => simp [countL]
  | cons k a ih => cases k <;> simp [countL, ih] <;> omega
theorem countV_lt {kd : List Kd} {t j : Nat} (h : kd[t]? = some (Kd.v j)) {u : Nat} (hu : t < u) : countV (kd.take t) < countV (kd.take u) := by
  have e : kd.take (t + 1) = kd.take t ++ [Kd.v j] := by
    have := (List.getElem?_eq_some_iff.1 h)
    obtain ⟨h1, h2⟩ := this
    rw [List.take_succ_eq_append_getElem h1, h2]
  have e2 : kd.take u = kd.take (t + 1) ++ (kd.drop (t + 1)).take (u - (t + 1)) := by
    rw [← List.take_add]; congr 1; omega
  rw [e2, e, countV_app, countV_app]
  simp [countV]
  omega
theorem countL_lt {kd : List Kd} {t s : Nat} {b : Bool} (h : slotOf kd (some t) = some (s, b)) {u : Nat} (hu : t < u) : countL (kd.take t) < countL (kd.take u) := by
  obtain ⟨k, hk, hk1⟩ : ∃ k, kd[t]? = some k ∧ countL [k] = 1 := by
    simp only [slotOf] at h
    split at h
    · rename_i s' hs; exact ⟨_, hs, rfl⟩
    · rename_i s' hs; exact ⟨_, hs, rfl⟩
    · cases h
  have e : kd.take (t + 1) = kd.take t ++ [k] := by
    obtain ⟨h1, h2⟩ := (List.getElem?_eq_some_iff.1 hk)
    rw [List.take_succ_eq_append_getElem h1, h2]
  have e2 : kd.take u = kd.take (t + 1) ++ (kd.drop (t + 1)).take (u - (t + 1)) := by
    rw [← List.take_add]; congr 1; omega
  rw [e2, e, countL_app, countL_app, hk1]
  omega
theorem named (ks : List Nat) : Named (number ks 0 0) := by
  refine ⟨fun t t' j h h' => ?_, fun t t' s a b h h' => ?_⟩
  · have e := number_v h
    have e' := number_v h'
    rcases Nat.lt_trichotomy t t' with hlt | heq | hlt
    · have := countV_lt h hlt; omega
    · exact heq
    · have := countV_lt h' hlt; omega
  · have e := number_l h
    have e' := number_l h'
    rcases Nat.lt_trichotomy t t' with hlt | heq | hlt
    · have := countL_lt h hlt; omega
    · exact heq
    · have := countL_lt h' hlt; omega
theorem countV_all {kd : List Kd} {t j : Nat} (h : kd[t]? = some (Kd.v j)) : countV (kd.take t) < countV kd := by
  have := countV_lt h (u := kd.length) (List.getElem?_eq_some_iff.1 h).1
  simpa using this
theorem parV_take : ∀ {kd : List Kd} {n t : Nat}, parV kd n = true → t ≤ n → countV (kd.take t) = t ∧ t ≤ kd.length := by
  intro kd
  induction kd with
  | nil => intro n t h ht; cases n with
    | zero => simp at ht; subst ht; simp [countV]
    | succ n => simp [parV] at h
  | cons k kd ih =>
    intro n t h ht
    cases n with
    | zero => simp at ht; subst ht; simp [countV]
    | succ n =>
      cases k <;> simp [parV] at h
      cases t with
      | zero => simp [countV]
      | succ t =>
        obtain ⟨h1, h2⟩ := ih h (by omega : t ≤ n)
        simp [countV, h1, h2]
theorem countV_mono (kd : List Kd) {a b : Nat} (h : a ≤ b) : countV (kd.take a) ≤ countV (kd.take b) := by
  have e2 : kd.take b = kd.take a ++ (kd.drop a).take (b - a) := by
    rw [← List.take_add]; congr 1; omega
  rw [e2, countV_app]
  omega
def resS (tmps : Array Value) : ResultVar → Sem Value
  | .tmp t => pure (tmps.getD t Go.undef)
  | .cell x t => do loadVar t (← asAddr (tmps.getD x Go.undef))
/-- the results -/
theorem res_ok {kd : List Kd} {N : Nat} {μ0 : Mp} {h0 : H} {w0 : World} {w₀ : Nat} {vs ts : List V} {ls : Ls} {h : H} {a : Act} {w : World} (hT : TOk P T) (I : KInv kd N μ0 h0 w0 w₀ ⟨[], []⟩ vs ts ls h a w) :
    ∃ μ, HRel μ h w ∧ FrW w₀ μ0 h0 w0 μ h w ∧ ∀ (rs : List ResultVar) (l : List RV) (out : List V), compRes T kd rs = some l → evRes vs ls l = some out →
      ∃ ys : List Value, (rs.mapM (resS a.tmps)).run P w = .ok ys w ∧ VRs μ out ys := by
  obtain ⟨⟨μ, κ, h1, h2, h3, h4, h5, h6, h7⟩, _, _, _⟩ := I
  refine ⟨μ, h1, h4, fun rs => ?_⟩
  induction rs with
  | nil =>
    intro l out hc he
    simp [compRes] at hc
    subst hc
    simp [evRes] at he
    subst he
    exact ⟨[], by simp, .nil⟩
  | cons r rs ih =>
    intro l out hc he
    cases r with
    | tmp t =>
      simp only [compRes] at hc
      split at hc
      · rename_i j l2 hj hl2
        cases hc
        simp only [evRes] at he
        split at he
        · rename_i o2 ho2
          cases he
          obtain ⟨ys, e1, e2⟩ := ih l2 o2 hl2 ho2
          refine ⟨a.tmps.getD t Go.undef :: ys, ?_, .cons (h5 t j hj) e2⟩
          rw [List.mapM_cons]
          simp only [resS, Sem.run_bind, Sem.run_pure, Result.andThen_ok, e1]
        · cases he
      · cases hc
    | cell x t =>
      simp only [compRes] at hc
      split at hc
      · rename_i s ti l2 hs hti hl2
        cases hc
        simp only [evRes] at he
        split at he
        · rename_i cs hcs
          split at he
          · rename_i v o2 hv ho2
            cases he
            obtain ⟨ys, e1, e2⟩ := ih l2 o2 hl2 ho2
            obtain ⟨b, q1, q2⟩ := h6 x s cs hs hcs
            obtain ⟨b', q3, hrow, _, _⟩ := h2.blk s cs hcs
            rw [q1] at q3
            cases q3
            obtain ⟨y, q4, q5⟩ := run_loadVar (P := P) (o := 0) hT hti hrow hv
            refine ⟨y :: ys, ?_, .cons q5 e2⟩
            rw [List.mapM_cons]
            have q4' : (loadVar t ⟨b, 0, none⟩).run P w = .ok y w := q4
            simp only [resS, Sem.run_bind, q2, asAddr, Sem.run_pure, Result.andThen_ok, q4', e1]
          · cases he
        · cases he
      · cases hc
theorem results_ok {fn : Func} {tmps : Array Value} {w : World} {ys : List Value} (h : (fn.results.toList.mapM (resS tmps)).run P w = .ok ys w) :
    (results fn tmps).run P w = .ok (if h : ys.length = 1 then ys[0] else .tuple ys.toArray) w := by
  have e : results fn tmps = (do let vs ← fn.results.mapM (resS tmps); pure (if h : vs.size = 1 then vs[0] else .tuple vs)) := rfl
  rw [e, Array.mapM_eq_mapM_toList]
  simp only [Sem.run_bind, map_eq_pure_bind, h, Sem.run_pure, Result.andThen_ok]
  simp
theorem FrW.toFr {μ : Mp} {h : H} {w : World} {μ' : Mp} {h' : H} {w' : World} (f : FrW w.heap.size μ h w μ' h' w') : Fr μ h w μ' h' w' :=
  ⟨f.ext, f.n, f.size, f.keep, f.live, f.tape, f.os, f.out⟩
/-- a function does what is evaluated -/
theorem run_ok (hT : TOk P T) (hcall : CallOK P call) (hm : P.follows .mixedOrders = true) {ks : List Nat} {fn : Func} {cf : CF} (hcomp : comp T ks fn = some cf) {f : Nat} (hf : P.funcs[f]? = some fn) (hname : (fn.name == "runtime.NumGoroutine") = false)
    {n : Nat} {args : List V} {h h' : H} {r : V} (he : run n call cf args h = some (r, h')) {μ : Mp} {w : World} {args' : Array Value} (hH : HRel μ h w) (hA : VRs μ args args'.toList) :
    CDoes P f args' w fun y w' => ∃ μ', HRel μ' h' w' ∧ Fr μ h w μ' h' w' ∧ VRel μ' r y := by
  simp only [comp] at hcomp
  cases hb : (Nat.ble (number ks 0 0).length fn.ntmps && parV (number ks 0 0) (fn.params.size + fn.nfree)) with
  | false => rw [hb] at hcomp; simp at hcomp
  | true =>
  rw [hb] at hcomp
  rw [Bool.and_eq_true] at hb
  have hlen := Nat.le_of_ble_eq_true hb.1
  simp only [Bool.not_true, cond_false] at hcomp
  split at hcomp
  · rename_i code rs hbody hres
    cases hcomp
    unfold run at he
    cases ha : (!Nat.beq (vlen args 0) (fn.params.size + fn.nfree)) with
    | true => simp only [ha, cond_true] at he; cases he
    | false =>
    have hargs : args.length = fn.params.size + fn.nfree := by
      simp only [vlen_eq, Nat.add_zero, Bool.not_eq_false', Nat.beq_eq] at ha
      exact ha
    have hargs' : args'.size = fn.params.size + fn.nfree := by rw [← hargs, hA.length]; simp
    simp only [ha, cond_false] at he
    refine .inr ⟨w, ?_, calls_of_wp hf hbody ?_⟩
    · simp only [callFunc, Sem.run_bind, run_program, Result.andThen_ok, hf, hname, hbody, Option.isNone_some, Bool.false_eq_true, if_false, Sem.run_pure]
    · let a : Act := { tmps := args' ++ Array.replicate (fn.ntmps - args'.size) Go.undef, defers := [] }
      have hnp := (parV_take hb.2 (Nat.le_refl _)).2
      have I : KInv (number ks 0 0) fn.ntmps μ h w w.heap.size ⟨[], []⟩ (vapp args (rep (countV (number ks 0 0) - (fn.params.size + fn.nfree)) undef)) [] (rep (countL (number ks 0 0)) none) h a w := by
        refine ⟨⟨μ, fun _ => none, hH, ⟨fun s cs hs => ?_, fun s s' cs cs' c hs => ?_⟩, Nat.le_refl _, FrW.refl _ _ _ _, fun t j hj => ?_, fun t s cs _ hs => ?_, by simp [findD]⟩, rfl, ?_, fun t j hj => ?_⟩
        · exfalso
          have : ∀ (n s : Nat), slot (rep n none) s = none := by
            intro n
            induction n with
            | zero => intro s; rfl
            | succ n ih => intro s; cases s with
              | zero => rfl
              | succ s => exact ih s
          rw [this] at hs; cases hs
        · exfalso
          have : ∀ (n s : Nat), slot (rep n none) s = none := by
            intro n
            induction n with
            | zero => intro s; rfl
            | succ n ih => intro s; cases s with
              | zero => rfl
              | succ s => exact ih s
          rw [this] at hs; cases hs
        · have hjv := number_v hj
          rw [Nat.zero_add] at hjv
          rw [lget_eq, vapp_eq, rep_eq]
          by_cases htp : t < fn.params.size + fn.nfree
          · have := (parV_take hb.2 (Nat.le_of_lt htp)).1
            have hjt : j = t := by omega
            subst hjt
            rw [List.getElem?_append_left (by omega)]
            obtain ⟨y, hy, hv⟩ := hA.get j args[j] (by simp [hargs, htp])
            have hlt : j < args'.size := by omega
            have : a.tmps.getD j Go.undef = y := by
              have hy' : args'[j]? = some y := by simpa using hy
              show (args' ++ Array.replicate (fn.ntmps - args'.size) Go.undef).getD j Go.undef = y
              rw [Array.getD_eq_getD_getElem?, Array.getElem?_append_left hlt, hy']
              rfl
            rw [this]
            have hja : j < args.length := by omega
            simpa [hja] using hv
          · have hmono := countV_mono (number ks 0 0) (show fn.params.size + fn.nfree ≤ t by omega)
            have := (parV_take hb.2 (Nat.le_refl _)).1
            have h1 : (args ++ List.replicate (countV (number ks 0 0) - (fn.params.size + fn.nfree)) undef)[j]?.getD undef = undef := by
              rw [List.getElem?_append_right (by omega), List.getElem?_replicate]
              split <;> rfl
            have h2 : a.tmps.getD t Go.undef = Go.undef := by
              show (args' ++ Array.replicate (fn.ntmps - args'.size) Go.undef).getD t Go.undef = Go.undef
              rw [Array.getD_eq_getD_getElem?, Array.getElem?_append_right (by omega), Array.getElem?_replicate]
              split <;> rfl
            rw [h1, h2]
            exact VRel.undef μ
        · exfalso
          have : ∀ (n s : Nat), slot (rep n none) s = none := by
            intro n
            induction n with
            | zero => intro s; rfl
            | succ n ih => intro s; cases s with
              | zero => rfl
              | succ s => exact ih s
          rw [this] at hs; cases hs
        · show (args' ++ Array.replicate (fn.ntmps - args'.size) Go.undef).size = fn.ntmps
          simp
          omega
        · have hjv := number_v hj
          have := countV_all hj
          rw [vapp_eq, rep_eq]
          simp
          omega
      have fin : ∀ {vs' ts' : List V} {ls' : Ls} {hh : H} {a' : Act} {w' : World}, Am.fin ⟨countV (number ks 0 0), countL (number ks 0 0), fn.params.size + fn.nfree, (compK T (number ks 0 0) code ⟨[], []⟩).1, rs⟩ vs' ls' hh = some (r, h') → KInv (number ks 0 0) fn.ntmps μ h w w.heap.size ⟨[], []⟩ vs' ts' ls' hh a' w' →
          a'.defers = [] ∧ ∃ v, (results fn a'.tmps).run P w' = .ok v w' ∧ ∃ μ', HRel μ' h' w' ∧ Fr μ h w μ' h' w' ∧ VRel μ' r v := by
        intro vs' ts' ls' hh a' w' hfin hI
        refine ⟨hI.df, ?_⟩
        obtain ⟨μ', r1, r2, r3⟩ := res_ok (P := P) hT hI
        unfold Am.fin at hfin
        split at hfin
        · rename_i v hv
          cases hfin
          obtain ⟨ys, q1, q2⟩ := r3 _ _ _ hres hv
          have q3 := results_ok q1
          cases q2 with | cons q4 q5 =>
          cases q5
          exact ⟨_, q3, μ', r1, r2.toFr, q4⟩
        · rename_i out hne hv
          cases hfin
          obtain ⟨ys, q1, q2⟩ := r3 _ _ _ hres hv
          have q3 := results_ok q1
          have hl : ys.length ≠ 1 := by
            rw [← q2.length]
            intro hl
            match out, hl with
            | [v], _ => exact hne v rfl
          rw [dif_neg hl] at q3
          exact ⟨_, q3, μ', r1, r2.toFr, .t (by simpa using q2)⟩
        · cases hfin
      split at he
      · rename_i vs' ts' ls' hh hev
        refine wp_mono (code_wp hT hcall hm (named ks) hlen n code _ _ _ _ _ a w _ _ _ _ _ hev I) fun e a' w' hq => ?_
        cases e with
        | normal => exact fin (ts' := []) he hq.2.weak
        | exit id => cases hq.1
        | ret => cases hq.1
        | outgrown => exact hq.elim
        | goto l => exact hq.elim
        | panic ch => exact hq.elim
      · rename_i vs' ts' ls' hh hev
        refine wp_mono (code_wp hT hcall hm (named ks) hlen n code _ _ _ _ _ a w _ _ _ _ _ hev I) fun e a' w' hq => ?_
        cases e with
        | normal => cases hq.1
        | exit id => cases hq.1
        | ret => exact fin he hq.2
        | outgrown => exact hq.elim
        | goto l => exact hq.elim
        | panic ch => exact hq.elim
      · cases he
  · cases hcomp
/-- the table of compiled functions is the program's -/
def TabOK (P : Program) (T : TT) (tab : Nat → Option CF) : Prop :=
  ∀ f cf, tab f = some cf → ∃ fn ks, P.funcs[f]? = some fn ∧ comp T ks fn = some cf ∧ (fn.name == "runtime.NumGoroutine") = false
/-- the summaries are true -/
def SumOK (P : Program) (sm : Nat → Option (List V → H → Option (V × H))) : Prop :=
  ∀ f g, sm f = some g → ∀ args h r h', g args h = some (r, h') → ∀ μ w args', HRel μ h w → VRs μ args args'.toList → CDoes P f args' w fun y w' => ∃ μ', HRel μ' h' w' ∧ Fr μ h w μ' h' w' ∧ VRel μ' r y
/-- evaluation is sound -/
theorem evF_ok (hT : TOk P T) (hm : P.follows .mixedOrders = true) {n : Nat} {sm : Nat → Option (List V → H → Option (V × H))} {tab : Nat → Option CF} (ht : TabOK P T tab) (hs : SumOK P sm) : ∀ d, CallOK P (evF n sm tab d) := by
  intro d
  induction d with
  | zero => intro f args h r h' e; simp [evF] at e
  | succ d ih =>
    intro f args h r h' e μ w args' hH hA
    simp only [evF] at e
    split at e
    · rename_i g hg; exact hs f g hg args h r h' e μ w args' hH hA
    · split at e
      · rename_i cf hcf
        obtain ⟨fn, ks, h1, h2, h3⟩ := ht f cf hcf
        exact run_ok hT ih hm h2 h1 h3 e hH hA
      · cases e
end Am
namespace Am
open Go
noncomputable section
abbrev Kt := V → Ls → H → CR
structure OpC where
  f : CallT → List V → List V → Ls → H → Kt → CR
/-! eliminators with closed minors -/
def cb {α : Type} (b : Bool) (x y : α) : α := @Bool.rec (fun _ => α) y x b
def no1 {A : Type} (_ : A) : CR := .no
def elI : V → (IntKind → Int → CR) → CR :=
  @V.rec (fun _ => (IntKind → Int → CR) → CR) (fun _ => Unit) (fun _ _ => .no) (fun k n f => f k n) (fun _ _ => .no) (fun _ => .no) (fun _ _ _ => .no) (fun _ => .no) (fun _ _ _ _ _ _ => .no) (fun _ => .no) (fun _ _ => .no) (fun _ _ _ _ _ _ => .no) (fun _ => .no) (fun _ _ _ _ => .no) (fun _ => .no) (fun _ _ _ => .no) (fun _ _ _ => .no) (fun _ _ => .no) (fun _ _ _ => .no) () (fun _ _ _ _ => ())
def elB : V → (Bool → CR) → CR :=
  @V.rec (fun _ => (Bool → CR) → CR) (fun _ => Unit) (fun b f => f b) (fun _ _ _ => .no) (fun _ _ => .no) (fun _ => .no) (fun _ _ _ => .no) (fun _ => .no) (fun _ _ _ _ _ _ => .no) (fun _ => .no) (fun _ _ => .no) (fun _ _ _ _ _ _ => .no) (fun _ => .no) (fun _ _ _ _ => .no) (fun _ => .no) (fun _ _ _ => .no) (fun _ _ _ => .no) (fun _ _ => .no) (fun _ _ _ => .no) () (fun _ _ _ _ => ())
def elA : V → (List V → CR) → CR :=
  @V.rec (fun _ => (List V → CR) → CR) (fun _ => Unit) (fun _ _ => .no) (fun _ _ _ => .no) (fun _ _ => .no) (fun _ => .no) (fun _ _ _ => .no) (fun _ => .no) (fun _ _ _ _ _ _ => .no) (fun _ => .no) (fun _ _ => .no) (fun _ _ _ _ _ _ => .no) (fun _ => .no) (fun _ _ _ _ => .no) (fun _ => .no) (fun cs _ f => f cs) (fun _ _ _ => .no) (fun _ _ => .no) (fun _ _ _ => .no) () (fun _ _ _ _ => ())
def elT : V → (List V → CR) → CR :=
  @V.rec (fun _ => (List V → CR) → CR) (fun _ => Unit) (fun _ _ => .no) (fun _ _ _ => .no) (fun _ _ => .no) (fun _ => .no) (fun _ _ _ => .no) (fun _ => .no) (fun _ _ _ _ _ _ => .no) (fun _ => .no) (fun _ _ => .no) (fun _ _ _ _ _ _ => .no) (fun _ => .no) (fun _ _ _ _ => .no) (fun _ => .no) (fun _ _ _ => .no) (fun cs _ f => f cs) (fun _ _ => .no) (fun _ _ _ => .no) () (fun _ _ _ _ => ())
def elLp : V → (Nat → CR) → CR :=
  @V.rec (fun _ => (Nat → CR) → CR) (fun _ => Unit) (fun _ _ => .no) (fun _ _ _ => .no) (fun _ _ => .no) (fun _ => .no) (fun _ _ _ => .no) (fun _ => .no) (fun _ _ _ _ _ _ => .no) (fun _ => .no) (fun _ _ => .no) (fun _ _ _ _ _ _ => .no) (fun _ => .no) (fun _ _ _ _ => .no) (fun _ => .no) (fun _ _ _ => .no) (fun _ _ _ => .no) (fun o f => f o) (fun _ _ _ => .no) () (fun _ _ _ _ => ())
/-- the cells of a value -/
def elCs : V → (List V → CR) → CR :=
  @V.rec (fun _ => (List V → CR) → CR) (fun _ => Unit) (fun x f => f [.b x]) (fun k n f => f [.i k n]) (fun x f => f [.s x]) (fun f => f [.pn]) (fun b o f => f [.p b o]) (fun f => f [.sn]) (fun b o n s c f => f [.sl b o n s c]) (fun f => f [.mn]) (fun r f => f [.m r]) (fun a b c _ _ f => f [.f a b c]) (fun f => f [.nf]) (fun t v _ f => f [.ic t v]) (fun f => f [.ni]) (fun cs _ f => f cs) (fun _ _ _ => .no) (fun _ _ => .no) (fun _ _ _ => .no) () (fun _ _ _ _ => ())
def elO {A : Type} : Option A → (A → CR) → CR := @Option.rec A (fun _ => (A → CR) → CR) (fun _ => .no) (fun a f => f a)
def elRs : Rs → Kt → CR := @Rs.rec (fun _ => Kt → CR) (fun _ => .no) (fun v ls h k => k v ls h)
abbrev Ct := List V → List V → Ls → H → CR
def elCR : CR → (Ex → Ct) → CR := @CR.rec (fun _ => (Ex → Ct) → CR) (fun _ => .no) (fun e vs ts ls h k => k e vs ts ls h)
def elEx : Ex → CR → (Nat → CR) → CR → CR := @Ex.rec (fun _ => CR → (Nat → CR) → CR → CR) (fun a _ _ => a) (fun i _ f _ => f i) (fun _ _ c => c)
/-! forcing -/
def fN {R : Type} : Nat → (Nat → R) → R := @Nat.rec (fun _ => (Nat → R) → R) (fun k => k 0) (fun m _ k => k (Nat.succ m))
def fI : Int → (Int → CR) → CR := @Int.rec (fun _ => (Int → CR) → CR) (fun a k => fN a fun a => k (.ofNat a)) (fun a k => fN a fun a => k (.negSucc a))
def fB : Bool → (Bool → CR) → CR := @Bool.rec (fun _ => (Bool → CR) → CR) (fun k => k false) (fun k => k true)
def fL {A R : Type} : List A → (List A → R) → R := @List.rec A (fun _ => (List A → R) → R) (fun k => k []) (fun x _ ih k => ih fun l => k (x :: l))
def fV : V → (V → CR) → CR :=
  @V.rec (fun _ => (V → CR) → CR) (fun _ => Unit) (fun x k => fB x fun x => k (.b x)) (fun kd n k => fI n fun n => k (.i kd n)) (fun x k => fL x fun x => k (.s x)) (fun k => k .pn)
    (fun b o k => fN b fun b => fN o fun o => k (.p b o)) (fun k => k .sn) (fun b o n sz c k => fN b fun b => fN o fun o => fN n fun n => k (.sl b o n sz c)) (fun k => k .mn)
    (fun r k => fN r fun r => k (.m r)) (fun n a b _ _ k => fL a fun a => fL b fun b => k (.f n a b)) (fun k => k .nf) (fun t v _ k => k (.ic t v)) (fun k => k .ni)
    (fun cs _ k => fL cs fun cs => k (.a cs)) (fun cs _ k => fL cs fun cs => k (.t cs)) (fun o k => fN o fun o => k (.lp o)) (fun o n k => fN o fun o => fN n fun n => k (.lsl o n)) () (fun _ _ _ _ => ())
/-! lists -/
def tlF : List V → List V := @List.rec V (fun _ => List V) [] (fun _ l _ => l)
def hdF : List V → V := @List.rec V (fun _ => V) undef (fun x _ _ => x)
structure LA where
  f : List V → V
def la : Nat → LA
  | 0 => ⟨hdF⟩
  | n + 1 => ⟨fun l => (la n).f (tlF l)⟩
structure LS where
  f : List V → V → List V
def ls_ : Nat → LS
  | 0 => ⟨fun l v => @List.rec V (fun _ => V → List V) (fun _ => []) (fun _ l _ v => v :: l) l v⟩
  | n + 1 => ⟨fun l v => @List.rec V (fun _ => V → List V) (fun _ => []) (fun x l _ v => x :: (ls_ n).f l v) l v⟩
structure Ac where
  f : List V → List V → V
def ac : X → Ac
  | .v j => ⟨fun vs _ => (la j).f vs⟩
  | .t j => ⟨fun _ ts => (la j).f ts⟩
  | .c x => ⟨fun _ _ => x⟩
def tlS : Ls → Ls := @List.rec (Option (List V)) (fun _ => Ls) [] (fun _ l _ => l)
def hdS : Ls → (List V → CR) → CR := @List.rec (Option (List V)) (fun _ => (List V → CR) → CR) (fun _ => .no) (fun x _ _ k => elO x k)
structure SA where
  f : Ls → (List V → CR) → CR
def sa : Nat → SA
  | 0 => ⟨hdS⟩
  | n + 1 => ⟨fun l => (sa n).f (tlS l)⟩
structure SS where
  f : Ls → List V → Ls
def ss : Nat → SS
  | 0 => ⟨fun l v => @List.rec (Option (List V)) (fun _ => List V → Ls) (fun _ => []) (fun _ l _ v => some v :: l) l v⟩
  | n + 1 => ⟨fun l v => @List.rec (Option (List V)) (fun _ => List V → Ls) (fun _ => []) (fun x l _ v => x :: (ss n).f l v) l v⟩
/-! arithmetic -/
def kn : IntKind → Nat := @IntKind.rec (fun _ => Nat) 0 1 2 3 4 5 6 7
def kq (a b : IntKind) : Bool := Nat.beq (kn a) (kn b)
def kl : IntKind → Nat := @IntKind.rec (fun _ => Nat) 128 32768 2147483648 9223372036854775808 256 65536 4294967296 18446744073709551616
def km : IntKind → Nat := @IntKind.rec (fun _ => Nat) 256 65536 4294967296 18446744073709551616 256 65536 4294967296 18446744073709551616
def ks : IntKind → Bool := @IntKind.rec (fun _ => Bool) true true true true false false false false
def wk (k : IntKind) (n : Int) (f : V → CR) : CR :=
  @Int.rec (fun _ => CR) (fun a => cb (ks k) (cb (Nat.ble (Nat.succ a) (kl k)) (fN a fun a => f (.i k (.ofNat a))) (fI (k.wrap (.ofNat a)) fun n => f (.i k n))) (fN (Nat.mod a (km k)) fun a => f (.i k (.ofNat a))))
    (fun a => cb (ks k) (cb (Nat.ble (Nat.succ a) (kl k)) (fN a fun a => f (.i k (.negSucc a))) (fI (k.wrap (.negSucc a)) fun n => f (.i k n))) (fN (Nat.sub (km k) (Nat.succ (Nat.mod a (km k)))) fun a => f (.i k (.ofNat a)))) n
def elInt (x y : Int) (f : Nat → Nat → CR) (g : CR) : CR := @Int.rec (fun _ => CR) (fun a => @Int.rec (fun _ => CR) (fun b => f a b) (fun _ => g) y) (fun _ => g) x
abbrev At := IntKind → Int → Int → (V → CR) → CR
def q_add : At := fun k x y f => elInt x y (fun a b => wk k (.ofNat (Nat.add a b)) f) (wk k (Int.add x y) f)
def q_sub : At := fun k x y f => elInt x y (fun a b => cb (Nat.ble b a) (wk k (.ofNat (Nat.sub a b)) f) (wk k (.negSucc (Nat.pred (Nat.sub b a))) f)) (wk k (Int.sub x y) f)
def q_mul : At := fun k x y f => elInt x y (fun a b => wk k (.ofNat (Nat.mul a b)) f) (wk k (Int.mul x y) f)
def q_quo : At := fun k x y f => elInt x y (fun a b => cb (Nat.beq b 0) .no (wk k (.ofNat (Nat.div a b)) f)) (cb (ieq y 0) .no (wk k (Int.tdiv x y) f))
def q_rem : At := fun k x y f => elInt x y (fun a b => cb (Nat.beq b 0) .no (fN (Nat.mod a b) fun a => f (.i k (.ofNat a)))) (cb (ieq y 0) .no (fI (Int.tmod x y) fun n => f (.i k n)))
def q_bit (op : BinOp) : At := fun k x y f => elO (bitsOp op k x y) fun n => fI n fun n => f (.i k n)
def q_and : At := fun k x y f => elInt x y (fun a b => cb (Nat.ble (Nat.succ a) (km k)) (cb (Nat.ble (Nat.succ b) (km k)) (wk k (.ofNat (Nat.land a b)) f) .no) .no) (q_bit .and k x y f)
def q_or : At := fun k x y f => elInt x y (fun a b => cb (Nat.ble (Nat.succ a) (km k)) (cb (Nat.ble (Nat.succ b) (km k)) (wk k (.ofNat (Nat.lor a b)) f) .no) .no) (q_bit .or k x y f)
def q_no : At := fun _ _ _ _ => .no
def q_cmp (t : Nat → Nat → Bool) (s : Int → Int → Bool) : At := fun _ x y f => elInt x y (fun a b => fB (t a b) fun b => f (.b b)) (fB (s x y) fun b => f (.b b))
def q_eql : At := q_cmp (fun a b => Nat.beq a b) (fun x y => ieq x y)
def q_neq : At := q_cmp (fun a b => cb (Nat.beq a b) false true) (fun x y => !ieq x y)
def q_lss : At := q_cmp (fun a b => Nat.ble (Nat.succ a) b) (fun x y => ilt x y)
def q_leq : At := q_cmp (fun a b => Nat.ble a b) (fun x y => !ilt y x)
def q_gtr : At := q_cmp (fun a b => Nat.ble (Nat.succ b) a) (fun x y => ilt y x)
def q_geq : At := q_cmp (fun a b => Nat.ble b a) (fun x y => !ilt x y)
structure AC where
  f : At
def arC : BinOp → AC
  | .add => ⟨q_add⟩ | .sub => ⟨q_sub⟩ | .mul => ⟨q_mul⟩ | .quo => ⟨q_quo⟩ | .rem => ⟨q_rem⟩ | .and => ⟨q_and⟩ | .or => ⟨q_or⟩ | .xor => ⟨q_bit .xor⟩ | .andNot => ⟨q_bit .andNot⟩
  | .shl => ⟨q_no⟩ | .shr => ⟨q_no⟩
  | .eql => ⟨q_eql⟩ | .neq => ⟨q_neq⟩ | .lss => ⟨q_lss⟩ | .leq => ⟨q_leq⟩ | .gtr => ⟨q_gtr⟩ | .geq => ⟨q_geq⟩
def kb : IntKind → Nat := @IntKind.rec (fun _ => Nat) 8 16 32 64 8 16 32 64
def q_shl : At := fun k x y f => elInt x y (fun a b => wk k (.ofNat (Nat.mul a (Nat.pow 2 (cb (Nat.ble (Nat.succ b) (kb k)) b (kb k))))) f) (elO (shiftOp .shl k x y) fun v => fV v f)
def q_shr : At := fun k x y f => elInt x y (fun a b => fN (Nat.div a (Nat.pow 2 (cb (Nat.ble (Nat.succ b) (kb k)) b (kb k)))) fun a => f (.i k (.ofNat a))) (elO (shiftOp .shr k x y) fun v => fV v f)
/-! ops -/
def gen (e : CallT → List V → List V → Ls → H → Rs) : OpC := ⟨fun call vs ts ls h k => elRs (e call vs ts ls h) fun v ls h => fV v fun v => k v ls h⟩
def o_mv (x : X) : OpC := ⟨fun _ vs ts ls h k => fV ((ac x).f vs ts) fun v => k v ls h⟩
def binS (q : At) (x y : X) : OpC := ⟨fun _ vs ts ls h k => elI ((ac x).f vs ts) fun kx a => elI ((ac y).f vs ts) fun ky b => q kx a b fun v => k v ls h⟩
def binQ (op : BinOp) (x y : X) : OpC := ⟨fun call vs ts ls h k => isII ((ac x).f vs ts)
    (elI ((ac x).f vs ts) fun kx a => elI ((ac y).f vs ts) fun ky b => cb (kq kx ky) ((arC op).f kx a b fun v => k v ls h) .no)
    ((gen (e_bin op x y)).f call vs ts ls h k)⟩
  where isII : V → CR → CR → CR :=
  @V.rec (fun _ => CR → CR → CR) (fun _ => Unit) (fun _ _ c => c) (fun _ _ c _ => c) (fun _ _ c => c) (fun _ c => c) (fun _ _ _ c => c) (fun _ c => c) (fun _ _ _ _ _ _ c => c) (fun _ c => c) (fun _ _ c => c) (fun _ _ _ _ _ _ c => c) (fun _ c => c) (fun _ _ _ _ c => c) (fun _ c => c) (fun _ _ _ c => c) (fun _ _ _ c => c) (fun _ _ c => c) (fun _ _ _ c => c) () (fun _ _ _ _ => ())
def o_bin (op : BinOp) (x y : X) : OpC := match op with
  | .shl => binS q_shl x y
  | .shr => binS q_shr x y
  | _ => binQ op x y
def o_un (op : UnOp) (x : X) : OpC := match op with
  | .not => ⟨fun _ vs ts ls h k => elB ((ac x).f vs ts) fun b => k (.b (cb b false true)) ls h⟩
  | _ => gen (e_un op x)
def o_pick (c a b : X) : OpC := ⟨fun _ vs ts ls h k => elB ((ac c).f vs ts) fun t => fV (cb t ((ac a).f vs ts) ((ac b).f vs ts)) fun v => k v ls h⟩
def o_cvI (kd : IntKind) (x : X) : OpC := ⟨fun _ vs ts ls h k => elI ((ac x).f vs ts) fun _ n => wk kd n fun v => k v ls h⟩
def vlenF : List V → Nat → Nat := @List.rec V (fun _ => Nat → Nat) (fun n => n) (fun _ _ ih n => ih (Nat.succ n))
def o_ext (x : X) (i : Nat) : OpC := ⟨fun _ vs ts ls h k => elT ((ac x).f vs ts) fun l => cb (Nat.ble (Nat.succ i) (vlenF l 0)) (fV ((la i).f l) fun v => k v ls h) .no⟩
def dropF : Nat → List V → List V := @Nat.rec (fun _ => List V → List V) (fun l => l) (fun _ ih l => ih (tlF l))
def takeK : Nat → List V → (List V → CR) → CR := @Nat.rec (fun _ => List V → (List V → CR) → CR) (fun _ k => k []) (fun _ ih l k => @List.rec V (fun _ => CR) .no (fun x l _ => ih l fun r => k (x :: r)) l)
/-- read -/
def rdK (cs : List V) (o : Nat) (g : Bool) (sz : Nat) (k : V → CR) : CR :=
  cb g (takeK sz (dropF o cs) fun r => k (.a r)) (cb (Nat.beq sz 1) (@List.rec V (fun _ => CR) .no (fun x _ _ => fV x k) (dropF o cs)) .no)
structure LP where
  f : List V → (Nat → CR) → CR
def plc (d : Option Nat) : LP := match d with
  | none => ⟨fun _ k => k 0⟩
  | some d => ⟨fun ts k => elLp ((la d).f ts) k⟩
def elNat (v : V) (k : Nat → CR) : CR := elI v fun _ n => @Int.rec (fun _ => CR) k (fun _ => .no) n
def o_idx (x i : X) (len : Nat) (g : Bool) (sz : Nat) : OpC := ⟨fun _ vs ts ls h k => elA ((ac x).f vs ts) fun cs => elNat ((ac i).f vs ts) fun n => cb (Nat.ble (Nat.succ n) len) (rdK cs (Nat.mul n sz) g sz fun v => k v ls h) .no⟩
def elP : V × H → (V → H → CR) → CR := @Prod.rec V H (fun _ => (V → H → CR) → CR) (fun v h f => f v h)
structure AsC where
  f : List V → List V → (List V → CR) → CR
def acs : List X → AsC
  | [] => ⟨fun _ _ k => k []⟩
  | x :: r => ⟨fun vs ts k => fV ((ac x).f vs ts) fun v => (acs r).f vs ts fun l => k (v :: l)⟩
def o_call (f : Nat) (as : List X) : OpC := ⟨fun call vs ts ls h k => (acs as).f vs ts fun l => elO (call f l h) fun p => elP p fun v h => fV v fun v => k v ls h⟩
def setK (s : Nat) (ls : Ls) (cs : List V) (k : Ls → CR) : CR := fL cs fun cs => fL ((ss s).f ls cs) k
def o_lal (s : Nat) (zero : List V) : OpC := ⟨fun _ _ _ ls h k => fL ((ss s).f ls zero) fun ls => k undef ls h⟩
def o_lbx (s : Nat) (x : X) : OpC := ⟨fun _ vs ts ls h k => elCs ((ac x).f vs ts) fun cs => setK s ls cs fun ls => k undef ls h⟩
def o_lfa (s : Nat) (d : Option Nat) (o : Nat) : OpC := ⟨fun _ _ ts ls h k => (plc d).f ts fun p => (sa s).f ls fun _ => fN (Nat.add p o) fun p => k (.lp p) ls h⟩
def o_lia (s : Nat) (d : Option Nat) (i : X) (len sz : Nat) : OpC := ⟨fun _ vs ts ls h k => (plc d).f ts fun p => (sa s).f ls fun _ => elNat ((ac i).f vs ts) fun n => cb (Nat.ble (Nat.succ n) len) (fN (Nat.add p (Nat.mul n sz)) fun p => k (.lp p) ls h) .no⟩
def o_lld (s : Nat) (d : Option Nat) (g : Bool) (sz : Nat) : OpC := ⟨fun _ _ ts ls h k => (plc d).f ts fun p => (sa s).f ls fun cs => rdK cs p g sz fun v => k v ls h⟩
/-- write over, from o on -/
def ovK (cs : List V) : Nat → List V → (List V → CR) → CR := @List.rec V (fun _ => Nat → List V → (List V → CR) → CR)
  (fun _ new k => @List.rec V (fun _ => CR) (k []) (fun _ _ _ => .no) new)
  (fun c cs ih o new k => @List.rec V (fun _ => CR) (k (c :: cs)) (fun v new' _ => @Nat.rec (fun _ => CR) (ih 0 new' fun l => k (v :: l)) (fun o _ => ih o new fun l => k (c :: l)) o) new) cs
def o_lst (s : Nat) (d : Option Nat) (x : X) (sz : Nat) : OpC := match sz with | 0 => gen (e_lst s d x 0) | sz + 1 => ⟨fun _ vs ts ls h k => (plc d).f ts fun p => (sa s).f ls fun cs => elCs ((ac x).f vs ts) fun new => cb (Nat.beq (vlenF new 0) (Nat.succ sz)) (ovK cs p new fun cs => fL ((ss s).f ls cs) fun ls => k undef ls h) .no⟩
def qO : O → OpC
  | .mv x0 => o_mv x0
  | .pick x0 x1 x2 => o_pick x0 x1 x2
  | .un x0 x1 => o_un x0 x1
  | .bin x0 x1 x2 => o_bin x0 x1 x2
  | .eqv x0 x1 x2 x3 => gen (e_eqv x0 x1 x2 x3)
  | .cvI x0 x1 => o_cvI x0 x1
  | .same x0 => gen (e_same x0)
  | .b2s x0 => gen (e_b2s x0)
  | .s2b x0 => gen (e_s2b x0)
  | .i2s x0 => gen (e_i2s x0)
  | .ext x0 x1 => o_ext x0 x1
  | .fld x0 x1 x2 x3 => gen (e_fld x0 x1 x2 x3)
  | .idx x0 x1 x2 x3 x4 => o_idx x0 x1 x2 x3 x4
  | .sidx x0 x1 => gen (e_sidx x0 x1)
  | .bld x0 x1 => gen (e_bld x0 x1)
  | .lenS x0 => gen (e_lenS x0)
  | .lenL x0 => gen (e_lenL x0)
  | .lenA x0 => gen (e_lenA x0)
  | .lenM x0 => gen (e_lenM x0)
  | .capL x0 => gen (e_capL x0)
  | .mnx x0 x1 => gen (e_mnx x0 x1)
  | .sub x0 x1 x2 x3 x4 => gen (e_sub x0 x1 x2 x3 x4)
  | .ssub x0 x1 x2 => gen (e_ssub x0 x1 x2)
  | .asub x0 x1 x2 x3 x4 => gen (e_asub x0 x1 x2 x3 x4)
  | .nilc x0 => gen (e_nilc x0)
  | .mkf x0 x1 x2 => gen (e_mkf x0 x1 x2)
  | .mki x0 x1 => gen (e_mki x0 x1)
  | .lal x0 x1 => o_lal x0 x1
  | .lbx x0 x1 => o_lbx x0 x1
  | .lbs x0 x1 x2 x3 x4 => gen (e_lbs x0 x1 x2 x3 x4)
  | .lfa x0 x1 x2 => o_lfa x0 x1 x2
  | .lia x0 x1 x2 x3 x4 => o_lia x0 x1 x2 x3 x4
  | .lld x0 x1 x2 x3 => o_lld x0 x1 x2 x3
  | .lst x0 x1 x2 x3 => o_lst x0 x1 x2 x3
  | .lsub x0 x1 x2 x3 x4 x5 => gen (e_lsub x0 x1 x2 x3 x4 x5)
  | .lb2s x0 x1 => gen (e_lb2s x0 x1)
  | .hal x0 => gen (e_hal x0)
  | .hbx x0 => gen (e_hbx x0)
  | .hbs x0 x1 x2 x3 => gen (e_hbs x0 x1 x2 x3)
  | .mks x0 x1 x2 x3 x4 => gen (e_mks x0 x1 x2 x3 x4)
  | .fa x0 x1 => gen (e_fa x0 x1)
  | .ia x0 x1 x2 => gen (e_ia x0 x1 x2)
  | .iaA x0 x1 x2 x3 => gen (e_iaA x0 x1 x2 x3)
  | .ld x0 x1 x2 => gen (e_ld x0 x1 x2)
  | .st x0 x1 x2 => gen (e_st x0 x1 x2)
  | .app x0 x1 x2 x3 => gen (e_app x0 x1 x2 x3)
  | .appS x0 x1 x2 => gen (e_appS x0 x1 x2)
  | .appL x0 x1 x2 x3 x4 => gen (e_appL x0 x1 x2 x3 x4)
  | .appM x0 x1 x2 x3 x4 => gen (e_appM x0 x1 x2 x3 x4)
  | .cpy x0 x1 x2 => gen (e_cpy x0 x1 x2)
  | .cpyS x0 x1 => gen (e_cpyS x0 x1)
  | .clr x0 x1 x2 => gen (e_clr x0 x1 x2)
  | .mkm  => gen (e_mkm )
  | .look x0 x1 x2 x3 x4 => gen (e_look x0 x1 x2 x3 x4)
  | .mup x0 x1 x2 x3 => gen (e_mup x0 x1 x2 x3)
  | .mdel x0 x1 x2 => gen (e_mdel x0 x1 x2)
  | .mclr x0 => gen (e_mclr x0)
  | .usd x0 => gen (e_usd x0)
  | .uss x0 x1 => gen (e_uss x0 x1)
  | .call x0 x1 => o_call x0 x1
  | .callv x0 x1 => gen (e_callv x0 x1)
  | .no  => gen (e_no )

structure RC where
  f : CallT → List V → List V → Ls → H → CR
structure DC where
  f : List V → V → List V
def dc (d : Option Nat) : DC := match d with
  | none => ⟨fun vs _ => vs⟩
  | some j => ⟨fun vs v => (ls_ j).f vs v⟩
def stepN (o : OpC) (r : RC) : RC := ⟨fun call vs ts ls h => o.f call vs ts ls h fun v ls h => r.f call vs (v :: ts) ls h⟩
def stepD (o : OpC) (d : DC) (r : RC) : RC := ⟨fun call vs ts ls h => o.f call vs ts ls h fun v ls h => r.f call (d.f vs v) (v :: ts) ls h⟩
def stepG (g : Option (Nat × Bool)) (o : OpC) (d : DC) (r : RC) : RC := ⟨fun call vs ts ls h => cb (wantedG ts g) ((stepD o d r).f call vs ts ls h) (r.f call (d.f vs undef) (undef :: ts) ls h)⟩
def qOps : List RO → RC
  | [] => ⟨fun _ vs ts ls h => .ok .n vs ts ls h⟩
  | ⟨none, none, o⟩ :: r => stepN (qO o) (qOps r)
  | ⟨none, d, o⟩ :: r => stepD (qO o) (dc d) (qOps r)
  | ⟨g, d, o⟩ :: r => stepG g (qO o) (dc d) (qOps r)
structure En where
  call : CallT
  N : Nat
structure KC where
  f : En → List V → List V → Ls → H → CR
def iterQ (f : List V → Ls → H → CR) : Nat → List V → Ls → H → CR :=
  @Nat.rec (fun _ => List V → Ls → H → CR) (fun _ _ _ => .no) (fun _ ih vs ls h => elCR (f vs ls h) fun e vs ts ls h => elEx e (fL vs fun vs => ih vs ls h) (fun i => .ok (.x i) vs ts ls h) (.ok .r vs ts ls h))
def seqQ (a b : KC) : KC := ⟨fun e vs ts ls h => elCR (a.f e vs ts ls h) fun x vs ts ls h => elEx x (b.f e vs ts ls h) (fun i => .ok (.x i) vs ts ls h) (.ok .r vs ts ls h)⟩
def condQ (x : Ac) (a b : KC) : KC := ⟨fun e vs ts ls h => elB (x.f vs ts) fun t => cb t (a.f e vs ts ls h) (b.f e vs ts ls h)⟩
def blockQ (id : Nat) (b : KC) : KC := ⟨fun e vs ts ls h => elCR (b.f e vs ts ls h) fun x vs ts ls h => elEx x (.ok .n vs ts ls h) (fun i => cb (Nat.beq i id) (.ok .n vs ts ls h) (.ok (.x i) vs ts ls h)) (.ok .r vs ts ls h)⟩
def loopQ (b : KC) : KC := ⟨fun e vs _ ls h => iterQ (fun vs ls h => b.f e vs [] ls h) e.N vs ls h⟩
def dregQ (ops : List RO) (fl : List (Nat × Option Nat)) : KC := match fl with
  | [] => ⟨fun e vs _ ls h => (qOps ops).f e.call vs [] ls h⟩
  | x :: fl => ⟨fun e vs _ ls h => evK e.call e.N (.dreg ops (x :: fl)) vs [] ls h⟩
def qK : K → KC
  | .skip => ⟨fun _ vs ts ls h => .ok .n vs ts ls h⟩
  | .bad => ⟨fun _ _ _ _ _ => .no⟩
  | .reg ops => ⟨fun e vs _ ls h => (qOps ops).f e.call vs [] ls h⟩
  | .dreg ops fl => dregQ ops fl
  | .seq a b => seqQ (qK a) (qK b)
  | .cond x a b => condQ (ac x) (qK a) (qK b)
  | .block id b => blockQ id (qK b)
  | .loop b => loopQ (qK b)
  | .exit id => ⟨fun _ vs ts ls h => .ok (.x id) vs ts ls h⟩
  | .ret => ⟨fun _ vs ts ls h => .ok .r vs ts ls h⟩
def finQ (c : CF) (r : CR) : Option (V × H) := @CR.rec (fun _ => Option (V × H)) none (fun e vs _ ls h => @Ex.rec (fun _ => Option (V × H)) (fin c vs ls h) (fun _ => none) (fin c vs ls h) e) r
def runQ (N : Nat) (call : CallT) (c : CF) (args : List V) (h : H) : Option (V × H) :=
  cb (Nat.beq (vlenF args 0) c.np) (finQ c ((qK c.body).f ⟨call, N⟩ (vapp args (rep (c.nv - c.np) undef)) [] (rep c.nl none) h)) none
def evQ (N : Nat) (sm : Nat → Option (List V → H → Option (V × H))) (tab : Nat → Option CF) (d : Nat) : CallT :=
  @Nat.rec (fun _ => CallT) (fun _ _ _ => none) (fun _ ih f args h => @Option.rec _ (fun _ => Option (V × H)) (@Option.rec _ (fun _ => Option (V × H)) none (fun c => runQ N ih c args h) (tab f)) (fun g => g args h) (sm f)) d
end
end Am
namespace Am
open Go

@[simp] theorem cb_eq {α : Type} (b : Bool) (x y : α) : cb b x y = bif b then x else y := by cases b <;> rfl
@[simp] theorem fN_eq {R : Type} (n : Nat) (k : Nat → R) : fN n k = k n := by cases n <;> rfl
@[simp] theorem fI_eq (n : Int) (k : Int → CR) : fI n k = k n := by cases n <;> simp [fI]
@[simp] theorem fB_eq (b : Bool) (k : Bool → CR) : fB b k = k b := by cases b <;> rfl
@[simp] theorem fL_eq {A R : Type} (l : List A) (k : List A → R) : fL l k = k l := by
  induction l generalizing k with
  | nil => rfl
  | cons x l ih => exact ih _
@[simp] theorem fV_eq (v : V) (k : V → CR) : fV v k = k v := by
  cases v <;> simp [fV]
theorem tlF_cons (x : V) (l : List V) : tlF (x :: l) = l := rfl
@[simp] theorem la_eq (n : Nat) (l : List V) : (la n).f l = lget l n := by
  induction n generalizing l with
  | zero => cases l <;> rfl
  | succ n ih => cases l with
    | nil => simp [la, ih, tlF]; cases n <;> rfl
    | cons x l => simp [la, ih, tlF_cons, lget]
@[simp] theorem lsQ_eq (n : Nat) (l : List V) (v : V) : (ls_ n).f l v = lset l n v := by
  induction n generalizing l with
  | zero => cases l <;> rfl
  | succ n ih => cases l with
    | nil => rfl
    | cons x l => simp [ls_, lset, ih]
@[simp] theorem ac_eq (x : X) (vs ts : List V) : (ac x).f vs ts = getX vs ts x := by
  cases x <;> simp [ac, getX]
theorem elO_eq {A : Type} (o : Option A) (f : A → CR) : elO o f = match o with | none => .no | some a => f a := by cases o <;> rfl
@[simp] theorem elO_none {A : Type} (f : A → CR) : elO none f = .no := rfl
@[simp] theorem elO_some {A : Type} (a : A) (f : A → CR) : elO (some a) f = f a := rfl
@[simp] theorem elRs_no (f : Kt) : elRs .no f = .no := rfl
@[simp] theorem elRs_ok (v : V) (ls : Ls) (h : H) (f : Kt) : elRs (.ok v ls h) f = f v ls h := rfl
@[simp] theorem sa_eq (n : Nat) (l : Ls) (k : List V → CR) : (sa n).f l k = elO (slot l n) k := by
  induction n generalizing l with
  | zero => cases l <;> rfl
  | succ n ih => cases l with
    | nil => simp [sa, ih, tlS]; cases n <;> rfl
    | cons x l => simp only [sa, ih, slot]; rfl
@[simp] theorem ss_eq (n : Nat) (l : Ls) (v : List V) : (ss n).f l v = setSlot l n v := by
  induction n generalizing l with
  | zero => cases l <;> rfl
  | succ n ih => cases l with
    | nil => rfl
    | cons x l => simp [ss, setSlot, ih]
theorem km_eq (k : IntKind) : km k = 2 ^ k.bits := by cases k <;> rfl
theorem kl_eq (k : IntKind) : kl k = klim k := by cases k <;> rfl
theorem ks_eq (k : IntKind) : ks k = k.signed := by cases k <;> rfl
theorem kq_eq (a b : IntKind) : kq a b = keq a b := by cases a <;> cases b <;> rfl
theorem kb_eq (k : IntKind) : kb k = k.bits := by cases k <;> rfl
theorem ble_blt (a b : Nat) : Nat.ble (Nat.succ a) b = Nat.blt a b := rfl
theorem wrap_un (k : IntKind) (h : k.signed = false) (n : Int) : k.wrap n = n % 2 ^ k.bits := by simp [IntKind.wrap, h]
@[simp] theorem wk_eq (k : IntKind) (n : Int) (f : V → CR) : wk k n f = f (.i k (wr k n)) := by
  cases n with
  | ofNat a =>
    simp only [wk, cb_eq, fN_eq, fI_eq, ks_eq, kl_eq]
    cases hs : k.signed with
    | true =>
      simp only [cond_true, wr, ble_blt]
      cases Nat.blt a (klim k) <;> rfl
    | false =>
      simp only [cond_false]
      rw [wr_eq, wrap_un k hs, km_eq]
      congr 2
  | negSucc a =>
    simp only [wk, cb_eq, fN_eq, fI_eq, ks_eq, kl_eq]
    cases hs : k.signed with
    | true =>
      simp only [cond_true, wr, ksg_eq, hs, Bool.true_and, ble_blt]
      cases Nat.blt a (klim k) <;> rfl
    | false =>
      simp only [cond_false]
      rw [wr_eq, wrap_un k hs, km_eq]
      congr 2
      have hp : (0 : Int) < 2 ^ k.bits := Int.pow_pos (by omega)
      rw [Int.negSucc_emod _ hp]
      have hm : a % 2 ^ k.bits < 2 ^ k.bits := Nat.mod_lt _ (Nat.two_pow_pos _)
      have e : ((a : Int) % 2 ^ k.bits) = ((a % 2 ^ k.bits : Nat) : Int) := by simp
      have e2 : ((2 : Int) ^ k.bits) = ((2 ^ k.bits : Nat) : Int) := by simp
      rw [e, e2]
      show ((2 ^ k.bits - (a % 2 ^ k.bits + 1) : Nat) : Int) = _
      omega
theorem elInt_eq (x y : Int) (f : Nat → Nat → CR) (g : CR) (r : CR) (h1 : ∀ a b : Nat, x = .ofNat a → y = .ofNat b → f a b = r) (h2 : g = r) : elInt x y f g = r := by
  cases x with
  | ofNat a => cases y with
    | ofNat b => exact h1 a b rfl rfl
    | negSucc b => exact h2
  | negSucc a => cases y <;> exact h2

/-! arithmetic -/
theorem kmod_km (k : IntKind) : km k = kmod k := by cases k <;> rfl
theorem elMap (o : Option Int) (k : IntKind) (f : V → CR) : elO o (fun n => f (.i k n)) = elO (o.map (.i k)) f := by cases o <;> rfl
theorem ieq0 (b : Nat) : ieq (.ofNat b) 0 = Nat.beq b 0 := rfl
theorem q_add_eq (k : IntKind) (x y : Int) (f : V → CR) : q_add k x y f = f (.i k (wr k (Int.add x y))) := by
  refine elInt_eq _ _ _ _ _ ?_ (by simp)
  rintro a b rfl rfl; simp only [wk_eq]; rfl
theorem q_mul_eq (k : IntKind) (x y : Int) (f : V → CR) : q_mul k x y f = f (.i k (wr k (Int.mul x y))) := by
  refine elInt_eq _ _ _ _ _ ?_ (by simp)
  rintro a b rfl rfl; simp only [wk_eq]; rfl
theorem q_sub_eq (k : IntKind) (x y : Int) (f : V → CR) : q_sub k x y f = f (.i k (wr k (Int.sub x y))) := by
  refine elInt_eq _ _ _ _ _ ?_ (by simp)
  rintro a b rfl rfl
  simp only [wk_eq, cb_eq]
  cases hb : Nat.ble b a with
  | true =>
    have h : b ≤ a := by simpa using hb
    simp only [cond_true]
    have : (Int.ofNat (Nat.sub a b)) = Int.sub (.ofNat a) (.ofNat b) := by
      show ((a - b : Nat) : Int) = (a : Int) - b
      omega
    rw [this]
  | false =>
    have h : ¬ b ≤ a := fun h => by rw [Nat.ble_eq_true_of_le h] at hb; cases hb
    simp only [cond_false]
    have : (Int.negSucc (Nat.pred (Nat.sub b a))) = Int.sub (.ofNat a) (.ofNat b) := by
      show Int.negSucc (b - a - 1) = (a : Int) - b
      rw [Int.negSucc_eq]; omega
    rw [this]
theorem q_quo_eq (k : IntKind) (x y : Int) (f : V → CR) : q_quo k x y f = elO (bif ieq y 0 then none else some (.i k (wr k (Int.tdiv x y)))) f := by
  refine elInt_eq _ _ _ _ _ ?_ ?_
  · rintro a b rfl rfl
    simp only [wk_eq, cb_eq, ieq0]
    cases Nat.beq b 0 <;> rfl
  · simp only [wk_eq, cb_eq]; cases ieq y 0 <;> rfl
theorem q_rem_eq (k : IntKind) (x y : Int) (f : V → CR) : q_rem k x y f = elO (bif ieq y 0 then none else some (.i k (Int.tmod x y))) f := by
  refine elInt_eq _ _ _ _ _ ?_ ?_
  · rintro a b rfl rfl
    simp only [fN_eq, cb_eq, ieq0]
    cases Nat.beq b 0 <;> rfl
  · simp only [fI_eq, cb_eq]; cases ieq y 0 <;> rfl
theorem q_bit_eq (op : BinOp) (k : IntKind) (x y : Int) (f : V → CR) : q_bit op k x y f = elO ((bitsOp op k x y).map (.i k)) f := by
  simp only [q_bit, fI_eq]; exact elMap _ _ _
theorem q_and_eq (k : IntKind) (x y : Int) (f : V → CR) : q_and k x y f = elO ((bitsOp .and k x y).map (.i k)) f := by
  refine elInt_eq _ _ _ _ _ ?_ (q_bit_eq _ _ _ _ _)
  rintro a b rfl rfl
  simp only [wk_eq, cb_eq, bitsOp, ble_blt, kmod_km]
  cases Nat.blt a (kmod k) <;> cases Nat.blt b (kmod k) <;> rfl
theorem q_or_eq (k : IntKind) (x y : Int) (f : V → CR) : q_or k x y f = elO ((bitsOp .or k x y).map (.i k)) f := by
  refine elInt_eq _ _ _ _ _ ?_ (q_bit_eq _ _ _ _ _)
  rintro a b rfl rfl
  simp only [wk_eq, cb_eq, bitsOp, ble_blt, kmod_km]
  cases Nat.blt a (kmod k) <;> cases Nat.blt b (kmod k) <;> rfl
theorem q_cmp_eq (t : Nat → Nat → Bool) (s : Int → Int → Bool) (k : IntKind) (x y : Int) (f : V → CR) (h : ∀ a b, t a b = s (.ofNat a) (.ofNat b)) : q_cmp t s k x y f = f (.b (s x y)) := by
  refine elInt_eq _ _ _ _ _ ?_ (by simp)
  rintro a b rfl rfl
  simp only [fB_eq, h]
theorem not_blt (a b : Nat) : Nat.ble b a = !Nat.blt a b := by
  rw [Bool.eq_iff_iff, Nat.ble_eq, Bool.not_eq_true', ← Bool.not_eq_true, Nat.blt_eq]; omega
theorem arC_eq (op : BinOp) (h1 : op ≠ .shl) (h2 : op ≠ .shr) (k : IntKind) (x y : Int) (f : V → CR) : (arC op).f k x y f = elO (arith op k x y) f := by
  cases op with
  | add => exact q_add_eq _ _ _ _
  | sub => exact q_sub_eq _ _ _ _
  | mul => exact q_mul_eq _ _ _ _
  | quo => exact q_quo_eq _ _ _ _
  | rem => exact q_rem_eq _ _ _ _
  | and => exact q_and_eq _ _ _ _
  | or => exact q_or_eq _ _ _ _
  | xor => exact q_bit_eq _ _ _ _ _
  | andNot => exact q_bit_eq _ _ _ _ _
  | shl => exact absurd rfl h1
  | shr => exact absurd rfl h2
  | eql => exact q_cmp_eq (fun a b => Nat.beq a b) (fun x y => ieq x y) k x y f (fun a b => rfl)
  | neq => exact q_cmp_eq (fun a b => cb (Nat.beq a b) false true) (fun x y => !ieq x y) k x y f (fun a b => by show cb (Nat.beq a b) false true = !Nat.beq a b; cases Nat.beq a b <;> rfl)
  | lss => exact q_cmp_eq (fun a b => Nat.ble (Nat.succ a) b) (fun x y => ilt x y) k x y f (fun a b => rfl)
  | leq => exact q_cmp_eq (fun a b => Nat.ble a b) (fun x y => !ilt y x) k x y f (fun a b => not_blt _ _)
  | gtr => exact q_cmp_eq (fun a b => Nat.ble (Nat.succ b) a) (fun x y => ilt y x) k x y f (fun a b => rfl)
  | geq => exact q_cmp_eq (fun a b => Nat.ble b a) (fun x y => !ilt x y) k x y f (fun a b => not_blt _ _)
theorem q_shl_eq (k : IntKind) (x y : Int) (f : V → CR) : q_shl k x y f = elO (shiftOp .shl k x y) f := by
  refine elInt_eq _ _ _ _ _ ?_ (by simp)
  rintro a b rfl rfl
  simp only [wk_eq, cb_eq, ble_blt, kb_eq, shiftOp]
  rfl
theorem q_shr_eq (k : IntKind) (x y : Int) (f : V → CR) : q_shr k x y f = elO (shiftOp .shr k x y) f := by
  refine elInt_eq _ _ _ _ _ ?_ (by simp)
  rintro a b rfl rfl
  simp only [fN_eq, cb_eq, ble_blt, kb_eq, shiftOp, elO_some]
  congr 2
  rw [Int.fdiv_eq_ediv_of_nonneg _ (by exact Int.natCast_nonneg _)]
  rfl
end Am
namespace Am
open Go

theorem elI_eq (v : V) (f : IntKind → Int → CR) : elI v f = match v with | .i k n => f k n | _ => .no := by cases v <;> rfl
theorem elB_eq (v : V) (f : Bool → CR) : elB v f = match v with | .b k => f k | _ => .no := by cases v <;> rfl
theorem elA_eq (v : V) (f : List V → CR) : elA v f = match v with | .a k => f k | _ => .no := by cases v <;> rfl
theorem elT_eq (v : V) (f : List V → CR) : elT v f = match v with | .t k => f k | _ => .no := by cases v <;> rfl
theorem elLp_eq (v : V) (f : Nat → CR) : elLp v f = match v with | .lp k => f k | _ => .no := by cases v <;> rfl
theorem elCs_eq (v : V) (f : List V → CR) : elCs v f = elO v.cs? f := by cases v <;> rfl
theorem elNat_eq (v : V) (f : Nat → CR) : elNat v f = elO (inat v) f := by
  unfold elNat
  rw [elI_eq]
  cases v with
  | i k n => cases n <;> rfl
  | _ => rfl
@[simp] theorem vlenF_eq (l : List V) (n : Nat) : vlenF l n = vlen l n := by
  induction l generalizing n with
  | nil => rfl
  | cons x l ih => exact ih _
@[simp] theorem dropF_eq (n : Nat) (l : List V) : dropF n l = vdrop n l := by
  induction n generalizing l with
  | zero => rfl
  | succ n ih => cases l with
    | nil => show dropF n [] = []; rw [ih]; cases n <;> rfl
    | cons x l => exact ih l
theorem vlen_add (l : List V) (n : Nat) : vlen l n = vlen l 0 + n := by
  induction l generalizing n with
  | nil => simp [vlen]
  | cons x l ih => simp only [vlen]; rw [ih (n + 1), ih 1]; omega
theorem takeK_eq (n : Nat) (l : List V) (k : List V → CR) : takeK n l k = bif Nat.beq (vlen (vtake n l) 0) n then k (vtake n l) else .no := by
  induction n generalizing l k with
  | zero => rfl
  | succ n ih => cases l with
    | nil => rfl
    | cons x l =>
      show takeK n l (fun r => k (x :: r)) = _
      rw [ih]
      simp only [vtake, vlen]
      rw [vlen_add _ 1]
      have : Nat.beq (vlen (vtake n l) 0 + 1) (n + 1) = Nat.beq (vlen (vtake n l) 0) n := rfl
      rw [this]
theorem rdK_eq (cs : List V) (o : Nat) (g : Bool) (sz : Nat) (k : V → CR) : rdK cs o g sz k = elO (rd cs o g sz) k := by
  unfold rdK rd part
  simp only [cb_eq, dropF_eq, takeK_eq]
  cases g with
  | true =>
    simp only [cond_true]
    cases Nat.beq (vlen (vtake sz (vdrop o cs)) 0) sz <;> rfl
  | false =>
    simp only [cond_false]
    match sz with
    | 0 => rfl
    | 1 => cases hd : vdrop o cs with
      | nil => rfl
      | cons x l => show fV x k = _; simp; rfl
    | n + 2 =>
      show CR.no = _
      cases hb : Nat.beq (vlen (vtake (n + 2) (vdrop o cs)) 0) (n + 2) with
      | false => rfl
      | true =>
        simp only [cond_true]
        generalize vtake (n + 2) (vdrop o cs) = l at hb ⊢
        match l, hb with
        | [], _ => rfl
        | [x], hb => exact absurd (Nat.eq_of_beq_eq_true hb) (by simp [vlen])
        | _ :: _ :: _, _ => rfl
@[simp] theorem plc_eq (d : Option Nat) (ts : List V) (k : Nat → CR) : (plc d).f ts k = elO (place ts d) k := by
  cases d with
  | none => rfl
  | some d =>
    simp only [plc, la_eq, elLp_eq, place]
    cases lget ts d <;> rfl
theorem ovK_nil (cs : List V) (k : List V → CR) : ovK cs 0 [] k = elO (wrt cs 0 []) k := by
  have : Nat.ble (0 + vlen ([] : List V) 0) (vlen cs 0) = true := Nat.ble_eq_true_of_le (by simp [vlen])
  unfold wrt
  rw [this]
  cases cs <;> rfl
theorem ovK_eq (cs : List V) (o : Nat) (v : V) (new : List V) (k : List V → CR) : ovK cs o (v :: new) k = elO (wrt cs o (v :: new)) k := by
  induction cs generalizing o v new k with
  | nil =>
      show CR.no = _
      unfold wrt
      have : Nat.ble (o + vlen (v :: new) 0) (vlen [] 0) = false := by
        simp only [vlen]; rw [vlen_add]; cases hb : Nat.ble (o + (vlen new 0 + (0 + 1))) 0 with
        | false => rfl
        | true => have := Nat.le_of_ble_eq_true hb; omega
      rw [this]; rfl
  | cons c cs ih => cases o with
      | zero =>
        show ovK cs 0 new (fun l => k (v :: l)) = _
        have e : ovK cs 0 new (fun l => k (v :: l)) = elO (wrt cs 0 new) (fun l => k (v :: l)) := by
          cases new with
          | nil => exact ovK_nil _ _
          | cons a b => exact ih _ _ _ _
        rw [e]
        unfold wrt
        simp only [vlen]
        rw [vlen_add new (0 + 1), vlen_add cs (0 + 1)]
        have : Nat.ble (0 + (vlen new 0 + (0 + 1))) (vlen cs 0 + (0 + 1)) = Nat.ble (0 + vlen new 0) (vlen cs 0) := by
          simp only [Nat.zero_add]; rfl
        rw [this]
        cases Nat.ble (0 + vlen new 0) (vlen cs 0) <;> rfl
      | succ o =>
        show ovK cs o (v :: new) (fun l => k (c :: l)) = _
        rw [ih]
        unfold wrt
        have : Nat.ble (o + 1 + vlen (v :: new) 0) (vlen (c :: cs) 0) = Nat.ble (o + vlen (v :: new) 0) (vlen cs 0) := by
          simp only [vlen]
          rw [vlen_add cs (0 + 1)]
          have e : o + 1 + vlen new (0 + 1) = (o + vlen new (0 + 1)) + 1 := by omega
          rw [e]; rfl
        rw [this]
        cases Nat.ble (o + vlen (v :: new) 0) (vlen cs 0) <;> rfl

/-! ops -/
abbrev GoodQ (o : O) (c : OpC) : Prop := ∀ call vs ts ls h k, c.f call vs ts ls h k = elRs (evO call vs ts ls h o) k
theorem elRs_of (ls : Ls) (h : H) (o : Option V) (k : Kt) : elRs (Rs.of ls h o) k = elO o fun v => k v ls h := by cases o <;> rfl
theorem gen_eq (e : CallT → List V → List V → Ls → H → Rs) (call vs ts ls h k) : (gen e).f call vs ts ls h k = elRs (e call vs ts ls h) k := by
  simp only [gen, fV_eq]
theorem o_mv_eq (x : X) : GoodQ (.mv x) (o_mv x) := by
  intro call vs ts ls h k; simp only [o_mv, fV_eq, ac_eq]; rfl
theorem binQ_eq (op : BinOp) (h1 : op ≠ .shl) (h2 : op ≠ .shr) (x y : X) : GoodQ (.bin op x y) (binQ op x y) := by
  intro call vs ts ls h k
  have hg : (gen (e_bin op x y)).f call vs ts ls h k = elRs (evO call vs ts ls h (.bin op x y)) k := gen_eq _ _ _ _ _ _ _
  have hv : ∀ (v : V) (a b : CR), binQ.isII v a b = match v with | .i _ _ => a | _ => b := by intro v a b; cases v <;> rfl
  simp only [binQ, ac_eq, hv, elI_eq]
  rw [hg]
  show _ = elRs (e_bin op x y call vs ts ls h) k
  unfold e_bin
  rw [elRs_of]
  cases hx : getX vs ts x with
  | i kx a =>
    simp only
    cases hy : getX vs ts y with
    | i ky b =>
      simp only [cb_eq, kq_eq]
      have : binOp op (.i kx a) (.i ky b) = bif keq kx ky then arith op kx a b else none := by
        cases op <;> first | rfl | exact absurd rfl h1 | exact absurd rfl h2
      rw [this, arC_eq op h1 h2]
      cases keq kx ky <;> rfl
    | _ => cases op <;> rfl
  | _ =>
    simp only
    show elRs (e_bin op x y call vs ts ls h) k = _
    unfold e_bin
    rw [elRs_of, hx]
theorem binS_eq (op : BinOp) (q : At) (hq : ∀ k x y f, q k x y f = elO (shiftOp op k x y) f) (ho : ∀ k a k' b, binOp op (.i k a) (.i k' b) = shiftOp op k a b)
    (hn : ∀ x y, (∀ k a k' b, ¬(x = .i k a ∧ y = .i k' b)) → binOp op x y = none) (x y : X) : GoodQ (.bin op x y) (binS q x y) := by
  intro call vs ts ls h k
  show _ = elRs (e_bin op x y call vs ts ls h) k
  unfold e_bin
  rw [elRs_of]
  simp only [binS, ac_eq, elI_eq]
  cases hx : getX vs ts x with
  | i kx a =>
    cases hy : getX vs ts y with
    | i ky b => simp only [hq, ho]
    | _ => rw [hn _ _ (by rintro _ _ _ _ ⟨_, h⟩; cases h)]; rfl
  | _ => rw [hn _ _ (by rintro _ _ _ _ ⟨h, _⟩; cases h)]; rfl
theorem shl_none : ∀ x y, (∀ k a k' b, ¬(x = .i k a ∧ y = .i k' b)) → binOp .shl x y = none := by
  intro x y h
  cases x <;> cases y <;> first | rfl | exact absurd ⟨rfl, rfl⟩ (h _ _ _ _)
theorem shr_none : ∀ x y, (∀ k a k' b, ¬(x = .i k a ∧ y = .i k' b)) → binOp .shr x y = none := by
  intro x y h
  cases x <;> cases y <;> first | rfl | exact absurd ⟨rfl, rfl⟩ (h _ _ _ _)
theorem o_bin_eq (op : BinOp) (x y : X) : GoodQ (.bin op x y) (o_bin op x y) := by
  cases op with
  | shl => exact binS_eq .shl q_shl q_shl_eq (fun _ _ _ _ => rfl) shl_none x y
  | shr => exact binS_eq .shr q_shr q_shr_eq (fun _ _ _ _ => rfl) shr_none x y
  | _ => exact binQ_eq _ (by decide) (by decide) x y
theorem o_un_eq (op : UnOp) (x : X) : GoodQ (.un op x) (o_un op x) := by
  intro call vs ts ls h k
  show _ = elRs (e_un op x call vs ts ls h) k
  cases op with
  | not =>
    unfold e_un
    simp only [o_un, ac_eq, elB_eq, cb_eq, elRs_of]
    cases getX vs ts x with
    | b t => cases t <;> rfl
    | _ => rfl
  | _ => exact gen_eq _ _ _ _ _ _ _
theorem o_pick_eq (c a b : X) : GoodQ (.pick c a b) (o_pick c a b) := by
  intro call vs ts ls h k
  show _ = elRs (e_pick c a b call vs ts ls h) k
  unfold e_pick
  simp only [o_pick, ac_eq, elB_eq, cb_eq, fV_eq]
  cases getX vs ts c <;> rfl
theorem o_cvI_eq (kd : IntKind) (x : X) : GoodQ (.cvI kd x) (o_cvI kd x) := by
  intro call vs ts ls h k
  show _ = elRs (e_cvI kd x call vs ts ls h) k
  unfold e_cvI
  simp only [o_cvI, ac_eq, elI_eq, wk_eq]
  cases getX vs ts x <;> rfl
theorem o_ext_eq (x : X) (i : Nat) : GoodQ (.ext x i) (o_ext x i) := by
  intro call vs ts ls h k
  show _ = elRs (e_ext x i call vs ts ls h) k
  unfold e_ext
  simp only [o_ext, ac_eq, elT_eq, cb_eq, fV_eq, la_eq, vlenF_eq, ble_blt]
  cases getX vs ts x with
  | t l => simp only; cases Nat.blt i (vlen l 0) <;> rfl
  | _ => rfl
theorem o_idx_eq (x i : X) (len : Nat) (g : Bool) (sz : Nat) : GoodQ (.idx x i len g sz) (o_idx x i len g sz) := by
  intro call vs ts ls h k
  show _ = elRs (e_idx x i len g sz call vs ts ls h) k
  unfold e_idx
  simp only [o_idx, ac_eq, elA_eq, elNat_eq, cb_eq, rdK_eq, ble_blt]
  cases getX vs ts x with
  | a cs => cases inat (getX vs ts i) with
    | none => rfl
    | some n =>
      simp only [elO_some]
      cases Nat.blt n len with
      | true => exact (elRs_of _ _ _ _).symm
      | false => rfl
  | _ => cases inat (getX vs ts i) <;> rfl
theorem acs_eq (as : List X) (vs ts : List V) (k : List V → CR) : (acs as).f vs ts k = k (getXs vs ts as) := by
  induction as generalizing k with
  | nil => rfl
  | cons x r ih => simp only [acs, fV_eq, ac_eq, ih, getXs]
theorem o_call_eq (f : Nat) (as : List X) : GoodQ (.call f as) (o_call f as) := by
  intro call vs ts ls h k
  show _ = elRs (e_call f as call vs ts ls h) k
  unfold e_call
  simp only [o_call, acs_eq, fV_eq]
  cases call f (getXs vs ts as) h <;> rfl
theorem o_lal_eq (s : Nat) (zero : List V) : GoodQ (.lal s zero) (o_lal s zero) := by
  intro call vs ts ls h k
  show _ = elRs (e_lal s zero call vs ts ls h) k
  unfold e_lal
  simp only [o_lal, fL_eq, ss_eq, elRs_ok]
theorem o_lbx_eq (s : Nat) (x : X) : GoodQ (.lbx s x) (o_lbx s x) := by
  intro call vs ts ls h k
  show _ = elRs (e_lbx s x call vs ts ls h) k
  unfold e_lbx
  simp only [o_lbx, elCs_eq, ac_eq, setK, fL_eq, ss_eq]
  cases (getX vs ts x).cs? <;> rfl
theorem o_lfa_eq (s : Nat) (d : Option Nat) (o : Nat) : GoodQ (.lfa s d o) (o_lfa s d o) := by
  intro call vs ts ls h k
  show _ = elRs (e_lfa s d o call vs ts ls h) k
  unfold e_lfa
  simp only [o_lfa, plc_eq, sa_eq, fN_eq]
  cases place ts d <;> cases slot ls s <;> rfl
theorem o_lia_eq (s : Nat) (d : Option Nat) (i : X) (len sz : Nat) : GoodQ (.lia s d i len sz) (o_lia s d i len sz) := by
  intro call vs ts ls h k
  show _ = elRs (e_lia s d i len sz call vs ts ls h) k
  unfold e_lia
  simp only [o_lia, plc_eq, sa_eq, fN_eq, elNat_eq, ac_eq, cb_eq, ble_blt]
  cases place ts d with
  | none => rfl
  | some p => cases slot ls s with
    | none => rfl
    | some cs => cases inat (getX vs ts i) with
      | none => rfl
      | some n => simp only [elO_some]; cases Nat.blt n len <;> rfl
theorem o_lld_eq (s : Nat) (d : Option Nat) (g : Bool) (sz : Nat) : GoodQ (.lld s d g sz) (o_lld s d g sz) := by
  intro call vs ts ls h k
  show _ = elRs (e_lld s d g sz call vs ts ls h) k
  unfold e_lld
  simp only [o_lld, plc_eq, sa_eq, rdK_eq]
  cases place ts d with
  | none => rfl
  | some p => cases slot ls s with
    | none => rfl
    | some cs => exact (elRs_of _ _ _ _).symm
theorem o_lst_eq (s : Nat) (d : Option Nat) (x : X) (sz : Nat) : GoodQ (.lst s d x sz) (o_lst s d x sz) := by
  intro call vs ts ls h k
  show _ = elRs (e_lst s d x sz call vs ts ls h) k
  cases sz with
  | zero => exact gen_eq _ _ _ _ _ _ _
  | succ sz =>
    unfold e_lst
    simp only [o_lst, plc_eq, sa_eq, elCs_eq, ac_eq, cb_eq, vlenF_eq, fL_eq, ss_eq]
    cases place ts d with
    | none => rfl
    | some p => cases slot ls s with
      | none => rfl
      | some cs => cases (getX vs ts x).cs? with
        | none => rfl
        | some new =>
          simp only [elO_some]
          show (bif Nat.beq (vlen new 0) (sz + 1) then _ else _) = _
          cases hb : Nat.beq (vlen new 0) (sz + 1) with
          | false => rfl
          | true =>
            simp only [cond_true]
            cases new with
            | nil => exact absurd (Nat.eq_of_beq_eq_true hb) (by simp [vlen])
            | cons v new =>
              rw [ovK_eq]
              cases wrt cs p (v :: new) <;> rfl
end Am
namespace Am
open Go
theorem qO_eq (o : O) : GoodQ o (qO o) := by
  cases o with
  | mv x => exact o_mv_eq x
  | pick a b c => exact o_pick_eq a b c
  | un a b => exact o_un_eq a b
  | bin a b c => exact o_bin_eq a b c
  | cvI a b => exact o_cvI_eq a b
  | ext a b => exact o_ext_eq a b
  | idx a b c d e => exact o_idx_eq a b c d e
  | call a b => exact o_call_eq a b
  | lal a b => exact o_lal_eq a b
  | lbx a b => exact o_lbx_eq a b
  | lfa a b c => exact o_lfa_eq a b c
  | lia a b c d e => exact o_lia_eq a b c d e
  | lld a b c d => exact o_lld_eq a b c d
  | lst a b c d => exact o_lst_eq a b c d
  | _ => exact fun _ _ _ _ _ _ => gen_eq _ _ _ _ _ _ _
theorem dc_eq (d : Option Nat) (vs : List V) (v : V) : (dc d).f vs v = setD vs d v := by
  cases d with
  | none => rfl
  | some j => simp only [dc, lsQ_eq, setD]
theorem qOps_eq (call : CallT) : ∀ (ops : List RO) (vs ts : List V) (ls : Ls) (h : H), (qOps ops).f call vs ts ls h = evOps call ops vs ts ls h := by
  intro ops
  induction ops with
  | nil => intros; rfl
  | cons o r ih =>
    intro vs ts ls h
    obtain ⟨g, d, o⟩ := o
    have hD : ∀ (d : Option Nat) vs ts ls h, (stepD (qO o) (dc d) (qOps r)).f call vs ts ls h = match evO call vs ts ls h o with | .ok v ls h => evOps call r (setD vs d v) (v :: ts) ls h | .no => .no := by
      intro d vs ts ls h
      show (qO o).f call vs ts ls h _ = _
      rw [qO_eq o]
      cases evO call vs ts ls h o with
      | no => rfl
      | ok v ls h => show (qOps r).f call ((dc d).f vs v) (v :: ts) ls h = _; rw [ih, dc_eq]
    cases g with
    | none =>
      have e : evOps call (⟨none, d, o⟩ :: r) vs ts ls h = match evO call vs ts ls h o with | .ok v ls h => evOps call r (setD vs d v) (v :: ts) ls h | .no => .no := rfl
      rw [e]
      cases d with
      | none =>
        show (stepD (qO o) (dc none) (qOps r)).f call vs ts ls h = _
        exact hD none vs ts ls h
      | some j => exact hD (some j) vs ts ls h
    | some g =>
      show cb (wantedG ts (some g)) ((stepD (qO o) (dc d) (qOps r)).f call vs ts ls h) ((qOps r).f call ((dc d).f vs undef) (undef :: ts) ls h) = _
      rw [cb_eq, hD, ih, dc_eq]
      rfl
theorem elCR_eq (r : CR) (k : Ex → Ct) : elCR r k = match r with | .no => .no | .ok e vs ts ls h => k e vs ts ls h := by cases r <;> rfl
theorem iterQ_eq (f : List V → Ls → H → CR) : ∀ n vs ls h, iterQ f n vs ls h = iter f n vs ls h := by
  intro n
  induction n with
  | zero => intros; rfl
  | succ n ih =>
    intro vs ls h
    show elCR (f vs ls h) _ = _
    rw [elCR_eq]
    unfold iter
    cases f vs ls h with
    | no => rfl
    | ok e vs ts ls h =>
      cases e with
      | n =>
        show fL vs _ = iter f n vs ls h
        rw [fL_eq]; exact ih _ _ _
      | x id => rfl
      | r => rfl
theorem iter_congr (f g : List V → Ls → H → CR) (hfg : ∀ vs ls h, f vs ls h = g vs ls h) : ∀ n vs ls h, iter f n vs ls h = iter g n vs ls h := by
  have : f = g := by funext vs ls h; exact hfg vs ls h
  subst this; intros; rfl
theorem qK_eq (call : CallT) (N : Nat) : ∀ (k : K) (vs ts : List V) (ls : Ls) (h : H), (qK k).f ⟨call, N⟩ vs ts ls h = evK call N k vs ts ls h := by
  intro k
  induction k with
  | skip => intros; rfl
  | bad => intros; rfl
  | reg ops => intro vs ts ls h; exact qOps_eq call ops vs [] ls h
  | dreg ops fl =>
    intro vs ts ls h
    cases fl with
    | nil => exact qOps_eq call ops vs [] ls h
    | cons x fl => rfl
  | seq a b iha ihb =>
    intro vs ts ls h
    show elCR ((qK a).f ⟨call, N⟩ vs ts ls h) _ = _
    rw [elCR_eq, iha]
    have e : evK call N (.seq a b) vs ts ls h = match evK call N a vs ts ls h with
      | .ok .n vs ts ls h => evK call N b vs ts ls h
      | r => r := rfl
    rw [e]
    cases evK call N a vs ts ls h with
    | no => rfl
    | ok e vs ts ls h => cases e with
      | n => exact ihb vs ts ls h
      | x id => rfl
      | r => rfl
  | cond x a b iha ihb =>
    intro vs ts ls h
    show elB ((ac x).f vs ts) _ = _
    rw [elB_eq, ac_eq]
    have e : evK call N (.cond x a b) vs ts ls h = match getX vs ts x with
      | .b t => bif t then evK call N a vs ts ls h else evK call N b vs ts ls h
      | _ => .no := rfl
    rw [e]
    cases getX vs ts x with
    | b t => simp only [cb_eq, iha, ihb]
    | _ => rfl
  | block id b ihb =>
    intro vs ts ls h
    show elCR ((qK b).f ⟨call, N⟩ vs ts ls h) _ = _
    rw [elCR_eq, ihb]
    have e : evK call N (.block id b) vs ts ls h = match evK call N b vs ts ls h with
      | .ok (.x i) vs ts ls h => bif Nat.beq i id then .ok .n vs ts ls h else .ok (.x i) vs ts ls h
      | r => r := rfl
    rw [e]
    cases evK call N b vs ts ls h with
    | no => rfl
    | ok e vs ts ls h => cases e with
      | n => rfl
      | x i => show cb (Nat.beq i id) _ _ = _; rw [cb_eq]
      | r => rfl
  | loop b ihb =>
    intro vs ts ls h
    show iterQ _ N vs ls h = _
    rw [iterQ_eq]
    exact iter_congr _ _ (fun vs ls h => ihb vs [] ls h) N vs ls h
  | exit id => intros; rfl
  | ret => intros; rfl
theorem runQ_eq (N : Nat) (call : CallT) (c : CF) (args : List V) (h : H) : runQ N call c args h = run N call c args h := by
  unfold runQ run
  simp only [cb_eq, vlenF_eq, qK_eq]
  cases Nat.beq (vlen args 0) c.np with
  | false => rfl
  | true =>
    simp only [cond_true, Bool.not_true, cond_false]
    cases evK call N c.body (vapp args (rep (c.nv - c.np) undef)) [] (rep c.nl none) h with
    | no => rfl
    | ok e vs ts ls h => cases e <;> rfl
theorem evQ_eq (N : Nat) (sm : Nat → Option (List V → H → Option (V × H))) (tab : Nat → Option CF) : ∀ d, evQ N sm tab d = evF N sm tab d := by
  intro d
  induction d with
  | zero => funext f args h; rfl
  | succ d ih =>
    funext f args h
    show (@Option.rec _ (fun _ => Option (V × H)) (@Option.rec _ (fun _ => Option (V × H)) none (fun c => runQ N (evQ N sm tab d) c args h) (tab f)) (fun g => g args h) (sm f) : Option (V × H)) = _
    unfold evF
    cases sm f with
    | some g => rfl
    | none =>
      simp only
      cases tab f with
      | none => rfl
      | some c => simp only; rw [runQ_eq, ih]
end Am
namespace Am
open Go
noncomputable section
variable {P : Program}

/-! Tables -/
abbrev G := List V → H → Option (V × H)
def lk {A : Type} (l : List (Nat × A)) (f : Nat) : Option A := @List.rec (Nat × A) (fun _ => Option A) none (fun p _ ih => cb (Nat.beq p.1 f) (some p.2) ih) l
theorem lk_mem {A : Type} {l : List (Nat × A)} {f : Nat} {a : A} (h : lk l f = some a) : (f, a) ∈ l := by
  induction l with
  | nil => cases h
  | cons p l ih =>
    have e : lk (p :: l) f = bif Nat.beq p.1 f then some p.2 else lk l f := cb_eq _ _ _
    rw [e] at h
    cases hb : Nat.beq p.1 f with
    | true =>
      rw [hb] at h
      have h1 := Nat.eq_of_beq_eq_true hb
      obtain ⟨a', b'⟩ := p
      simp at h h1
      subst h h1
      simp
    | false => rw [hb] at h; exact List.mem_cons_of_mem _ (ih h)
def Found (P : Program) (T : TT) (p : Nat × CF) : Prop := ∃ fn ks, P.funcs[p.1]? = some fn ∧ comp T ks fn = some p.2 ∧ (fn.name == "runtime.NumGoroutine") = false
theorem found {T : TT} {f : Nat} {fn : Func} {ks : List Nat} {c : CF} (h1 : P.funcs[f]? = some fn) (h2 : comp T ks fn = some c) (h3 : (fn.name == "runtime.NumGoroutine") = false) : Found P T (f, c) := ⟨fn, ks, h1, h2, h3⟩
theorem tabOK {T : TT} {l : List (Nat × CF)} (h : ∀ p ∈ l, Found P T p) : TabOK P T (lk l) := fun f cf e => h (f, cf) (lk_mem e)
def GOK (P : Program) (f : Nat) (g : G) : Prop :=
  ∀ args h r h', g args h = some (r, h') → ∀ μ w args', HRel μ h w → VRs μ args args'.toList → CDoes P f args' w fun y w' => ∃ μ', HRel μ' h' w' ∧ Fr μ h w μ' h' w' ∧ VRel μ' r y
theorem sumOK {l : List (Nat × G)} (h : ∀ p ∈ l, GOK P p.1 p.2) : SumOK P (lk l) := fun f g e => h (f, g) (lk_mem e)

/-! Values without places -/
mutual
def pur : V → Bool
  | .p _ _ => false
  | .sl .. => false
  | .m _ => false
  | .lp _ => false
  | .lsl _ _ => false
  | .a cs => purs cs
  | .t cs => purs cs
  | .f _ fs cs => purs fs && purs cs
  | .ic _ v => pur v
  | _ => true
def purs : List V → Bool
  | [] => true
  | a :: l => pur a && purs l
end
mutual
theorem VRel.pur {μ μ' : Mp} : ∀ {x : V} {y : Value}, VRel μ x y → pur x = true → VRel μ' x y
  | _, _, .b x, _ => .b x
  | _, _, .i k n, _ => .i k n
  | _, _, .s l y h, _ => .s l y h
  | _, _, .pn, _ => .pn
  | _, _, .p h, e => by simp [Am.pur] at e
  | _, _, .sn, _ => .sn
  | _, _, .sl h hn hc ha hN, e => by simp [Am.pur] at e
  | _, _, .mn, _ => .mn
  | _, _, .m h, e => by simp [Am.pur] at e
  | _, _, .f h h', e => by
    simp [Am.pur] at e
    exact .f (VRs.pur h e.1) (VRs.pur h' e.2)
  | _, _, .nf, _ => .nf
  | _, _, .ic h, e => .ic (VRel.pur h (by simpa [Am.pur] using e))
  | _, _, .ni, _ => .ni
  | _, _, .a h h1, e => .a (VRs.pur h (by simpa [Am.pur] using e)) h1
  | _, _, .t h, e => .t (VRs.pur h (by simpa [Am.pur] using e))
theorem VRs.pur {μ μ' : Mp} : ∀ {x : List V} {y : List Value}, VRs μ x y → purs x = true → VRs μ' x y
  | _, _, .nil, _ => .nil
  | _, _, .cons h h', e => by
    simp [Am.purs] at e
    exact .cons (VRel.pur h e.1) (VRs.pur h' e.2)
end
def μ0 : Mp := fun _ => none
def H0 : H := ⟨0, .lf⟩
theorem H0_get (b : Nat) : H0.get b = none := by simp [H0, H.get, Tr.get]
theorem HRel0 (w : World) : HRel μ0 H0 w := ⟨fun b x h => (by rw [H0_get] at h; cases h), fun b b' x x' c β β' N N' h => (by rw [H0_get] at h; cases h), fun _ _ => rfl⟩
/-- what a call of plain data leaves as it is -/
structure Quiet (w w' : World) : Prop where
  size : w.heap.size ≤ w'.heap.size
  keep : ∀ c, c < w.heap.size → w'.heap[c]? = w.heap[c]?
  tape : w'.tape = w.tape
  os : w'.os = w.os
  out : w'.output = w.output
theorem Fr.quiet {w w' : World} {μ' : Mp} {h' : H} (f : Fr μ0 H0 w μ' h' w') : Quiet w w' :=
  ⟨f.size, fun c hc => f.keep c hc (fun ⟨b, x, β, N, hb, _⟩ => (by rw [H0_get] at hb; cases hb)), f.tape, f.os, f.out⟩
theorem HRel.quiet {μ : Mp} {h : H} {w w' : World} (hh : HRel μ h w) (q : Quiet w w') : HRel μ h w' :=
  ⟨fun b x hb => let ⟨c, β, N, hm, hr⟩ := hh.blk b x hb; ⟨c, β, N, hm, hr.mono (Ext.refl _) (q.keep c hr.lt)⟩, hh.inj, hh.dom⟩
theorem Quiet.fr {μ : Mp} {h : H} {w w' : World} (q : Quiet w w') : Fr μ h w μ h w' :=
  ⟨Ext.refl _, Nat.le_refl _, q.size, fun c hc _ => q.keep c hc, fun _ l => .inl l, q.tape, q.os, q.out⟩
theorem CDoes.mono {f : FuncId} {args : Array Value} {w : World} {R R' : Value → World → Prop} (h : CDoes P f args w R) (hr : ∀ y w', R y w' → R' y w') : CDoes P f args w R' := by
  rcases h with ⟨y, w', h1, h2⟩ | ⟨w1, h1, h2⟩
  · exact .inl ⟨y, w', hr _ _ h1, h2⟩
  · refine .inr ⟨w1, h1, Calls.mono h2 fun e w' he => ?_⟩
    cases e with
    | returned y => exact hr _ _ he
    | panicked ch => exact he
    | outgrown => exact he

/-! Calls of plain data, once proved -/
def EntOK (P : Program) (f : Nat) (a : List V) (r : V) : Prop :=
  pur r = true ∧ purs a = true ∧ ∀ w args', VRs μ0 a args'.toList → CDoes P f args' w fun y w' => Quiet w w' ∧ VRel μ0 r y
theorem ent_of_call {call : CallT} (hc : CallOK P call) {f : Nat} {a : List V} {r : V} {h' : H} (e : call f a H0 = some (r, h')) (h1 : pur r = true) (h2 : purs a = true) : EntOK P f a r := by
  refine ⟨h1, h2, fun w args' hA => (hc f a H0 r h' e μ0 w args' (HRel0 w) hA).mono fun y w' ⟨μ', _, hf, hv⟩ => ⟨hf.quiet, hv.pur h1⟩⟩
theorem EntOK.does {f : Nat} {a : List V} {r : V} (h : EntOK P f a r) {μ : Mp} {H1 : H} {w : World} {args' : Array Value} (hH : HRel μ H1 w) (hA : VRs μ a args'.toList) :
    CDoes P f args' w fun y w' => ∃ μ', HRel μ' H1 w' ∧ Fr μ H1 w μ' H1 w' ∧ VRel μ' r y :=
  (h.2.2 w args' (hA.pur h.2.1)).mono fun y w' ⟨q, hv⟩ => ⟨μ, hH.quiet q, q.fr, hv.pur h.1⟩
/-- the lookup -/
def elook (es : List (List V × V)) (args : List V) : Option V := @List.rec (List V × V) (fun _ => Option V) none (fun p _ ih => cb (veqs p.1 args) (some p.2) ih) es
theorem elook_mem {es : List (List V × V)} {args : List V} {r : V} (h : elook es args = some r) : (args, r) ∈ es := by
  induction es with
  | nil => cases h
  | cons p l ih =>
    have e : elook (p :: l) args = bif veqs p.1 args then some p.2 else elook l args := cb_eq _ _ _
    rw [e] at h
    cases hb : veqs p.1 args with
    | true =>
      rw [hb] at h
      have h1 := veqs_ok hb
      obtain ⟨a', b'⟩ := p
      simp at h h1
      subst h h1
      simp
    | false => rw [hb] at h; exact List.mem_cons_of_mem _ (ih h)
def mG (es : List (List V × V)) : G := fun args h => @Option.rec V (fun _ => Option (V × H)) none (fun r => some (r, h)) (elook es args)
theorem mG_ok {f : Nat} {es : List (List V × V)} (h : ∀ e ∈ es, EntOK P f e.1 e.2) : GOK P f (mG es) := by
  intro args h1 r h' e μ w args' hH hA
  have : elook es args = some r ∧ h' = h1 := by
    unfold mG at e
    cases he : elook es args with
    | none => rw [he] at e; cases e
    | some v => rw [he] at e; cases e; exact ⟨rfl, rfl⟩
  obtain ⟨e1, rfl⟩ := this
  exact (h _ (elook_mem e1)).does hH hA
/-- one entry's check, by the kernel -/
def check (o : Option (V × H)) (r : V) (a : List V) : Bool := @Option.rec _ (fun _ => Bool) false (fun p => cb (veq r p.1) (cb (pur r) (purs a) false) false) o
theorem ent {T : TT} (hT : TOk P T) (hm : P.follows .mixedOrders = true) {n d : Nat} {sm : Nat → Option G} {tab : Nat → Option CF} (ht : TabOK P T tab) (hs : SumOK P sm)
    {f : Nat} {a : List V} {r : V} (e : check (evQ n sm tab d f a H0) r a = true) : EntOK P f a r := by
  unfold check at e
  cases he : evQ n sm tab d f a H0 with
  | none => rw [he] at e; cases e
  | some p =>
    rw [he] at e
    simp only [cb_eq] at e
    cases h1 : veq r p.1 with
    | false => rw [h1] at e; cases e
    | true =>
      cases h2 : pur r with
      | false => rw [h1, h2] at e; cases e
      | true =>
        rw [h1, h2] at e
        have h3 := veq_ok h1
        obtain ⟨v, h'⟩ := p
        simp only at h3
        subst h3
        rw [evQ_eq] at he
        exact ent_of_call (evF_ok hT hm ht hs d) he h2 e

/-! Go's own -/
def idxQ (c : Nat) : List Nat → Nat → Int := @List.rec Nat (fun _ => Nat → Int) (fun _ => .negSucc 0) (fun x _ ih n => cb (Nat.beq x c) (.ofNat n) (ih (Nat.succ n)))
theorem idxQ_eq (c : Nat) (hc : c < 256) (l : List UInt8) : ∀ n, idxQ c (l.map UInt8.toNat) n = if Lib.indexByte l c.toUInt8 = -1 then -1 else Lib.indexByte l c.toUInt8 + n := by
  induction l with
  | nil => intro n; rfl
  | cons x l ih =>
    intro n
    show cb (Nat.beq x.toNat c) (Int.ofNat n) (idxQ c (l.map UInt8.toNat) (n + 1)) = _
    rw [cb_eq, ih]
    have hx : (x == c.toUInt8) = Nat.beq x.toNat c := by
      rw [Bool.eq_iff_iff, beq_iff_eq, Nat.beq_eq]
      constructor
      · rintro rfl; simp; omega
      · rintro rfl; simp
    simp only [Lib.indexByte, hx]
    have hge := Lib.indexByte_ge l c.toUInt8
    cases Nat.beq x.toNat c with
    | true => simp
    | false =>
      simp only [cond_false, Bool.false_eq_true, if_false, beq_iff_eq]
      by_cases h : Lib.indexByte l c.toUInt8 = -1
      · simp [h]
      · simp only [h, if_false]
        rw [if_neg (by omega)]
        push_cast
        omega
def gIdx : G := fun a h => match a with
  | [.s l, .i k (.ofNat c)] => bif keq k .u8 && Nat.blt c 256 then some (.i .i64 (idxQ c l 0), h) else none
  | _ => none
theorem gIdx_ok {f : Nat} {fn : Func} (hf : P.funcs[f]? = some fn) (hname : (fn.name == "runtime.NumGoroutine") = false)
    (hb : fn.body.isNone = true) (hn : Extern.findNext fn = none) (he : Extern.find fn = some Extern.BytealgIndexByte.indexByte) : GOK P f gIdx := by
  intro args h r h' e μ w args' hH hA
  unfold gIdx at e
  split at e
  · rename_i l k c
    cases hq : keq k .u8 && Nat.blt c 256 with
    | false => rw [hq] at e; cases e
    | true =>
      rw [hq] at e
      simp only [cond_true, Option.some.injEq, Prod.mk.injEq] at e
      obtain ⟨rfl, rfl⟩ := e
      simp only [Bool.and_eq_true] at hq
      have hk : k = .u8 := by have := hq.1; rw [keq_eq] at this; simpa using this
      have hc : c < 256 := by simpa using hq.2
      subst hk
      obtain ⟨args'⟩ := args'
      cases hA with
      | cons h1 h2 => cases h2 with
        | cons h2 h3 => cases h3 with
          | nil =>
            cases h1 with
            | s l y hl =>
              cases h2 with
              | i k n =>
                refine .inl ⟨.int .i64 (Lib.indexByte y.data.toList (Int.ofNat c).toNat.toUInt8), w, ⟨μ, hH, Fr.refl _ _ _, ?_⟩, ?_⟩
                rotate_left
                · rw [run_callFunc_extern hf hname hb hn he]
                  show ((Extern.BytealgIndexByte.indexByte #[.string y, .int .u8 (.ofNat c)]).run P w).andThen _ = _
                  rw [Lib.run_indexByteString]
                  rfl
                · subst hl
                  rw [idxQ_eq c hc]
                  have : (if Lib.indexByte y.data.toList c.toUInt8 = -1 then -1 else Lib.indexByte y.data.toList c.toUInt8 + (0 : Nat)) = Lib.indexByte y.data.toList (Int.ofNat c).toNat.toUInt8 := by
                    show (if Lib.indexByte y.data.toList c.toUInt8 = -1 then -1 else Lib.indexByte y.data.toList c.toUInt8 + (0 : Nat)) = Lib.indexByte y.data.toList c.toUInt8
                    split
                    · rename_i h; exact h.symm
                    · simp
                  rw [this]
                  exact .i _ _
  · cases e
end
end Am
namespace Am
open Go
section
variable {P : Program}
theorem all_nil {A : Type} {Q : A → Prop} : ∀ p ∈ ([] : List A), Q p := by simp
theorem all_cons {A : Type} {Q : A → Prop} {a : A} {l : List A} (h : Q a) (t : ∀ p ∈ l, Q p) : ∀ p ∈ a :: l, Q p := by
  intro p hp
  rcases List.mem_cons.1 hp with rfl | hp
  · exact h
  · exact t p hp
theorem VRel.true_inv {μ : Mp} {y : Value} (h : VRel μ (.b true) y) : y = .bool true := by cases h; rfl
/-- a closed law that is evaluated to true -/
theorem calls_of_ent {f : Nat} {fn : Func} {c : Code} (hf : P.funcs[f]? = some fn) (hb : fn.body = some c) (hname : (fn.name == "runtime.NumGoroutine") = false) (h : EntOK P f [] (.b true)) (w : World) :
    Calls P f #[] w fun e w' => e = .returned (.bool true) ∧ Quiet w w' := by
  have hrun : (callFunc f #[]).run P w = .ok (.enter f #[]) w := by
    simp only [callFunc, Sem.run_bind, run_program, Result.andThen_ok, hf, hname, hb, Option.isNone_some, Bool.false_eq_true, if_false, Sem.run_pure]
  rcases h.2.2 w #[] .nil with ⟨y, w', _, h2⟩ | ⟨w1, h1, h2⟩
  · rw [hrun] at h2; cases h2
  · rw [hrun] at h1
    cases h1
    refine Calls.mono h2 fun e w' he => ?_
    cases e with
    | returned y => obtain ⟨q, hv⟩ := he; rw [hv.true_inv]; exact ⟨rfl, q⟩
    | panicked ch => exact he.elim
    | outgrown => exact he.elim
theorem Quiet.kept {W W' : World} (q : Quiet W W') (may : MemPlace → Prop) : W.keptBut W' may := by
  refine ⟨q.os, q.out, fun i hi => ?_⟩
  rw [q.keep i hi]
  cases hW : W.heap[i]? with
  | none => trivial
  | some o => cases o <;> simp
open Go.ChangeShapes Go.RowKit in
theorem post_true {H : Type} {enc : TypeId × Value → H} {f : Func} {s : ChangeSpec} {W W' : World} {ds gs : List (DataW H)} {before : List MemPlace} {t : TypeId}
    (hW : DataW.Whole enc P f.params.toList s.vars false W (#[] : Array Value).toList ds gs before) (hp : f.params = #[]) (hv : s.vars = []) (hr : f.resultTypes = #[t]) (ht : P.underlying t = some .bool)
    (hfn : s.fn H [] = { results := [.lit (.bool true)], args := [] }) (q : Quiet W W') :
    s.post enc P f false true false false W #[] (.bool true) W' := by
  have hW' := hW
  obtain ⟨p, q', hA, hV, rfl, _, _⟩ := hW
  rw [hp] at hA
  rw [hv] at hV
  have hds : ds = [] := by
    cases ds with
    | nil => rfl
    | cons d r => exact hA.elim
  have hgs : gs = [] := by
    cases gs with
    | nil => rfl
    | cons g r => exact hV.elim
  subst hds hgs
  have e : s.fn H ([] ++ []) = { results := [.lit (.bool true)], args := [] } := hfn
  refine ⟨[], [], _, [], [], [], hW', ?_, ?_, ?_, q.kept _, fun h => by cases h⟩
  · rw [e, hr]; exact trodAll_mk1 (shut_bool ht true)
  · rw [e, hp]; rfl
  · rw [e, hv]; rfl
end
end Am
