/- THE ABSTRACT MACHINE, part 2: the further operations; regions, their order. -/
import Derived.Test.YtonkmclifimcmaaGreatDoorAm1
import Derived.DeepKeys3
namespace Am
open Go
variable {P : Program} {T : TT} {call : CallT} {μ : Mp}

theorem bytes_len {y : ByteArray} {l : List Nat} (h : y.data.toList.map UInt8.toNat = l) : y.size = l.length := by
  rw [← h, List.length_map, Array.length_toList]; rfl
theorem bytes_extract {y : ByteArray} {l : List Nat} (h : y.data.toList.map UInt8.toNat = l) (a b : Nat) : (y.extract a b).data.toList.map UInt8.toNat = (l.drop a).take (b - a) := by
  rw [ByteArray.data_extract, Array.toList_extract, List.extract_eq_take_drop, List.map_take, List.map_drop, h]
theorem capOk_ok {cap : Option Nat} {n k j : Nat} (hn : n ≤ k) (hc : ∀ j, cap = some j → k = j) (h : capOk cap n j = true) : j ≤ k := by
  cases cap with
  | none => have := Nat.le_of_ble_eq_true h; omega
  | some c => have := Nat.le_of_ble_eq_true h; have := hc c rfl; omega
/-- slicing a slice -/
theorem slice_ok {b o sz c' β N a k l e m : Nat} (hmu : μ b = some (c', β, N)) (ha : k = 0 ∨ a = β + o) (hN : β + o + k * sz ≤ N) (mx : Option Nat)
    (h1 : l ≤ e) (h2 : e ≤ m) (h3 : m ≤ k) (hm : ∀ j, mx = some j → m - l = j) :
    VRel μ (.sl b (o + l * sz) (e - l) sz mx) (.slice (if m = l then some ⟨c', a, none⟩ else some (Addr.add ⟨c', a, none⟩ (l * sz))) (e - l) (m - l)) := by
  have hle : l * sz + (m - l) * sz ≤ k * sz := by rw [← Nat.add_mul]; exact Nat.mul_le_mul_right _ (by omega)
  by_cases hml : m = l
  · rw [if_pos hml]
    exact .sl hmu (by omega) hm (.inl (by omega)) (by omega)
  · rw [if_neg hml, add_off]
    have : a = β + o := by rcases ha with h | h <;> omega
    subst this
    exact .sl hmu (by omega) hm (.inr (by omega)) (by omega)
theorem ok_slice (d : Option Nat) (t : Nat) (x : Operand) (lo hi mx : Option Operand) (ty : Nat) (pos : String) (af : Array Edge) (g : Option (Nat × Bool)) : OpOK P T call ⟨d, .slice t x lo hi mx, ty, pos, af, g⟩ := by
  intro kd c μ κ vs ts ls h w w₀ ev v ls' h' hx he
  have hmem : ∀ z, lo = some z ∨ hi = some z → z ∈ (Op.slice t x lo hi mx).operands := by
    intro z hz
    rcases hz with rfl | rfl <;> simp [Op.operands]
  have hmemx : ∀ z, mx = some z → z ∈ (Op.slice t x lo hi mx).operands := by
    intro z hz
    subst hz
    simp [Op.operands]
  simp only [compO] at he ⊢
  cases hmh : (mx.isSome && hi.isNone) with
  | true => simp [hmh, evO, e_no] at he
  | false =>
  simp only [hmh, cond_false] at he ⊢
  cases hL : opdO kd c lo with
  | none => simp [hL, evO, e_no] at he
  | some L =>
  cases hH : opdO kd c hi with
  | none => simp [hL, hH, evO, e_no] at he
  | some Hi =>
  cases hM : opdO kd c mx with
  | none => simp [hL, hH, hM, evO, e_no] at he
  | some Mx =>
  have rm := opdO_ok hx.O hM hmemx
  simp only [hL, hH, hM] at he ⊢
  cases hu : tUnd T t with
  | none => simp [hu, evO, e_no] at he
  | some k =>
  have hP := tUnd_ok hx.T hu
  cases k <;> simp only [hu, evO, e_no, reduceCtorEq] at he ⊢
  case string =>
    rcases rm with ⟨rfl, rfl⟩ | ⟨z, Z, rfl, rfl, _⟩
    · cases hX : opd kd c x with
      | none => simp [hX, o?] at he
      | some X =>
        simp only [hX, o?, e_ssub] at he ⊢
        have rx := hx.O.v _ _ (by simp [Op.operands]) hX
        split at he
        · rename_i r hr
          split at he
          · rename_i l e hb
            simp only [Rs.ok.injEq] at he
            obtain ⟨rfl, rfl, rfl⟩ := he
            rw [hr] at rx
            generalize hex : ev x = vx at rx
            cases rx with | s _ y hy =>
            have hlen := bytes_len hy
            simp only [slen_eq, Nat.add_zero] at hb
            obtain ⟨b1, b2, b3⟩ := bounds_ok hx.O hL hH hmem (cap := r.length) (fun k hk => Nat.le_of_ble_eq_true hk) hb
            have hel : e ≤ r.length := by rcases b1 with ⟨_, h⟩ | ⟨_, _, h⟩ <;> omega
            refine Does.pure hx (y := .string (y.extract l e)) (.s _ _ (bytes_extract hy l e)) rfl ?_
            have hrun := run_bounds (P := P) (isS := false) (len := y.size) (cap := y.size) (l := l) (e := e) (m := y.size) (lo := lo.map ev) (hi := hi.map ev) (mx := none)
              (by rcases b1 with ⟨h, h'⟩ | ⟨k, h, _⟩
                  · exact .inl ⟨h, by rw [hlen]; exact h', rfl⟩
                  · exact .inr ⟨k, h⟩) b2 (.inl ⟨rfl, rfl⟩) b3 (fun _ => by rw [hlen]; exact hel) (Nat.le_refl _) w
            simp [execOp, Instr.sliceAt, Instr.slice, run_underlying hP, hex, hrun]
          · cases he
        · cases he
    · simp at he
  case slice e0 =>
    cases hi' : tInfo T e0 with
    | none => simp [hi'] at he
    | some te =>
    cases hX : opd kd c x with
    | none => simp [hi', hX] at he
    | some X =>
    simp only [hi', hX, e_sub] at he ⊢
    have rx := hx.O.v _ _ (by simp [Op.operands]) hX
    split at he
    · -- nil
      rename_i hsn
      split at he
      · rename_i l e hb
        rw [hsn] at rx
        generalize hex : ev x = vx at rx
        cases rx
        obtain ⟨b1, b2, b3⟩ := bounds_ok hx.O hL hH hmem (cap := 0) (fun k hk => by rw [Nat.beq_eq] at hk; omega) hb
        have he0 : e = 0 := by rcases b1 with ⟨_, h⟩ | ⟨_, _, h⟩ <;> omega
        have hl0 : l = 0 := by omega
        subst he0; subst hl0
        have fin : ∀ mv : Option Value, (mv = none ∨ ∃ k, mv = some (.int k (0 : Nat))) → ((∃ k, mv = some (.int k (0 : Nat))) → hi.map ev ≠ none) → (Instr.sliceAt t (.slice none 0 0) (lo.map ev) (hi.map ev) mv).run P w = .ok (.slice none 0 0) w := by
          intro mv hmv hhi
          have hrun := run_bounds (P := P) (isS := true) (len := 0) (cap := 0) (l := 0) (e := 0) (m := 0) (lo := lo.map ev) (hi := hi.map ev) (mx := mv)
            (by rcases b1 with ⟨h, _⟩ | ⟨k, h, _⟩
                · rcases hmv with rfl | ⟨k, rfl⟩
                  · exact .inl ⟨h, rfl, rfl⟩
                  · exact absurd h (hhi ⟨k, rfl⟩)
                · exact .inr ⟨k, h⟩) b2 (by rcases hmv with rfl | ⟨k, rfl⟩ <;> simp) (Nat.le_refl _) (fun _ => Nat.le_refl _) (Nat.le_refl _) w
          simp [Instr.sliceAt, Instr.slice, run_underlying hP, hrun, run_sizeOf hx.T hi']
        rcases rm with ⟨rfl, rfl⟩ | ⟨z, Z, rfl, rfl, rz⟩
        · simp only [Rs.ok.injEq] at he
          obtain ⟨rfl, rfl, rfl⟩ := he
          exact Does.pure hx .sn rfl (by simp [execOp, hex, fin none (.inl rfl) (by simp)])
        · simp only at he
          cases hz : inat (getX vs ts Z) with
          | none => rw [hz] at he; simp at he
          | some m =>
            rw [hz] at he
            cases m with
            | zero =>
              simp only [Rs.ok.injEq] at he
              obtain ⟨rfl, rfl, rfl⟩ := he
              obtain ⟨k, hk⟩ := nat_of rz hz
              refine Does.pure hx .sn rfl ?_
              simp only [execOp, hex, Option.map_some, hk, Sem.run_bind, fin (some (.int k ((0 : Nat) : Int))) (.inr ⟨k, rfl⟩) (fun _ => by cases hi <;> simp at hmh ⊢), Result.andThen_ok, Sem.run_pure]
            | succ m => simp at he
      · cases he
    · rename_i b o n sz cap hsl
      cases hsz : Nat.beq sz te.sz with
      | false => rw [hsz] at he; simp at he
      | true =>
        rw [hsz] at he
        have hsz' : sz = te.sz := by simpa [Nat.beq_eq] using hsz
        subst hsz'
        simp only [Bool.not_true, cond_false] at he
        rw [hsl] at rx
        generalize hex : ev x = vx at rx
        cases rx with | sl hmu hn hc ha hN =>
        rename_i c' β N a k
        split at he
        · cases he
        · rename_i l e hb
          obtain ⟨b1, b2, b3⟩ := bounds_ok hx.O hL hH hmem (cap := k) (fun j hj => capOk_ok hn hc hj) hb
          have hek : e ≤ k := by rcases b1 with ⟨_, h⟩ | ⟨_, _, h⟩ <;> omega
          rcases rm with ⟨rfl, rfl⟩ | ⟨z, Z, rfl, rfl, rz⟩
          · simp only [Rs.ok.injEq] at he
            obtain ⟨rfl, rfl, rfl⟩ := he
            have hrun := run_bounds (P := P) (isS := true) (len := n) (cap := k) (l := l) (e := e) (m := k) (lo := lo.map ev) (hi := hi.map ev) (mx := none)
              (by rcases b1 with ⟨h, h'⟩ | ⟨j, h, _⟩
                  · exact .inl ⟨h, h', rfl⟩
                  · exact .inr ⟨j, h⟩) b2 (.inl ⟨rfl, rfl⟩) b3 (fun _ => hek) (Nat.le_refl _) w
            refine Does.pure hx (slice_ok hmu ha hN _ b3 hek (Nat.le_refl _) ?_) rfl ?_
            · intro j hj
              cases hcap : cap with
              | none => rw [hcap] at hj; cases hj
              | some cc => rw [hcap] at hj; cases hj; rw [hc cc hcap]
            · simp only [execOp, hex, Instr.sliceAt, Instr.slice, Sem.run_bind, run_underlying hP, Result.andThen_ok, Option.map_none, hrun, run_sizeOf hx.T hi', Sem.run_pure, Option.map_some]
          · simp only at he
            cases hz : inat (getX vs ts Z) with
            | none => rw [hz] at he; simp at he
            | some m =>
              rw [hz] at he
              simp only at he
              cases hbl : (Nat.ble e m && capOk cap n m) with
              | false => rw [hbl] at he; simp at he
              | true =>
                rw [hbl] at he
                rw [Bool.and_eq_true] at hbl
                have hem : e ≤ m := Nat.le_of_ble_eq_true hbl.1
                have hmk : m ≤ k := capOk_ok hn hc hbl.2
                simp only [cond_true, Rs.ok.injEq] at he
                obtain ⟨rfl, rfl, rfl⟩ := he
                obtain ⟨kz, hkz⟩ := nat_of rz hz
                refine Does.pure hx (slice_ok hmu ha hN _ b3 hem hmk ?_) rfl ?_
                · intro j hj; cases hj; rfl
                · rcases b1 with ⟨h1, h2⟩ | ⟨j, h1, h2⟩
                  · cases hi <;> simp at hmh h1
                  · have hrun := run_bounds (P := P) (isS := true) (len := n) (cap := k) (l := l) (e := e) (m := m) (lo := lo.map ev) (hi := hi.map ev) (mx := some (ev z))
                      (.inr ⟨j, h1⟩) b2 (.inr ⟨kz, by rw [hkz]⟩) b3 (fun _ => hem) hmk w
                    simp only [execOp, hex, Instr.sliceAt, Instr.slice, Sem.run_bind, run_underlying hP, Result.andThen_ok, Option.map_some, hrun, run_sizeOf hx.T hi', Sem.run_pure]
    · cases he
  case array n e0 =>
    cases hi' : tInfo T e0 with
    | none => simp [hi'] at he
    | some te =>
    rcases rm with ⟨rfl, rfl⟩ | ⟨z, Z, rfl, rfl, rz⟩
    · simp only [hi'] at he ⊢
      cases hl : lpl false kd c x with
      | some p =>
        obtain ⟨s, q⟩ := p
        simp only [hl, e_lsub] at he ⊢
        split at he
        · rename_i p cs hp hcs
          split at he
          · rename_i l e hb
            simp only [Rs.ok.injEq] at he
            obtain ⟨rfl, rfl, rfl⟩ := he
            obtain ⟨b, hk, hev⟩ := hx.O.l x s q p _ (by simp [Op.operands]) hl hp hcs
            obtain ⟨b1, b2, b3⟩ := bounds_ok hx.O hL hH hmem (cap := n) (fun j hj => Nat.le_of_ble_eq_true hj) hb
            have hek : e ≤ n := by rcases b1 with ⟨_, h⟩ | ⟨_, _, h⟩ <;> omega
            have hrun := run_bounds (P := P) (isS := false) (len := n) (cap := n) (l := l) (e := e) (m := n) (lo := lo.map ev) (hi := hi.map ev) (mx := none)
              (by rcases b1 with ⟨h, h'⟩ | ⟨j, h, _⟩
                  · exact .inl ⟨h, h', rfl⟩
                  · exact .inr ⟨j, h⟩) b2 (.inl ⟨rfl, rfl⟩) b3 (fun _ => hek) (Nat.le_refl _) w
            refine .inl ⟨.slice (some (if n = l then ⟨b, p, none⟩ else Addr.add ⟨b, p, none⟩ (l * te.sz))) (e - l) (n - l), w, ⟨μ, κ, hx.H, hx.L, FrW.refl _ _ _ _, ?_, fun _ _ => rfl⟩, .inl ?_⟩
            · simp only [RR, boxed]
              intro p' m' hpm
              cases hpm
              by_cases hnl : n = l
              · exact ⟨b, p, n - l, hk, by rw [if_pos hnl], .inl (by omega), by omega⟩
              · exact ⟨b, p + l * te.sz, n - l, hk, by rw [if_neg hnl, add_off], .inr rfl, by omega⟩
            · simp only [execOp, Instr.sliceAt, Sem.run_bind, run_underlying hP, Result.andThen_ok, hev, Instr.sureAddr, Sem.run_pure, Option.map_none, hrun, run_sizeOf hx.T hi']
          · cases he
        · cases he
      | none =>
        simp only [hl] at he ⊢
        cases hX : opd kd c x with
        | none => simp [hX, o?] at he
        | some X =>
          simp only [hX, o?, e_asub] at he ⊢
          have rx := hx.O.v _ _ (by simp [Op.operands]) hX
          split at he
          · rename_i b o hb0
            split at he
            · rename_i l e cs hb hcs
              simp only [vlen_eq, Nat.add_zero] at he
              cases hbl : Nat.ble (o + n * te.sz) cs.length with
              | false => rw [hbl] at he; simp at he
              | true =>
                rw [hbl] at he
                have hfit := Nat.le_of_ble_eq_true hbl
                simp only [cond_true, Rs.ok.injEq] at he
                obtain ⟨rfl, rfl, rfl⟩ := he
                rw [hb0] at rx
                generalize hex : ev x = vx at rx
                cases rx with | p hmu =>
                rename_i c' β N
                obtain ⟨c2, β2, N2, hm2, hrow⟩ := hx.H.blk b _ hcs
                rw [hmu] at hm2
                cases hm2
                have hle := Row.le hrow
                obtain ⟨b1, b2, b3⟩ := bounds_ok hx.O hL hH hmem (cap := n) (fun j hj => Nat.le_of_ble_eq_true hj) hb
                have hek : e ≤ n := by rcases b1 with ⟨_, h⟩ | ⟨_, _, h⟩ <;> omega
                have hrun := run_bounds (P := P) (isS := false) (len := n) (cap := n) (l := l) (e := e) (m := n) (lo := lo.map ev) (hi := hi.map ev) (mx := none)
                  (by rcases b1 with ⟨h, h'⟩ | ⟨j, h, _⟩
                      · exact .inl ⟨h, h', rfl⟩
                      · exact .inr ⟨j, h⟩) b2 (.inl ⟨rfl, rfl⟩) b3 (fun _ => hek) (Nat.le_refl _) w
                have hs := slice_ok (mx := some (n - l)) (o := o) hmu (.inr rfl) (sz := te.sz) (k := n) (by omega) b3 hek (Nat.le_refl _) (by simp)
                refine Does.pure hx hs rfl ?_
                simp only [execOp, hex, Instr.sliceAt, Sem.run_bind, run_underlying hP, Result.andThen_ok, Instr.sureAddr, Sem.run_pure, Option.map_none, hrun, run_sizeOf hx.T hi']
                split <;> rfl
            · cases he
          · cases he
    · simp at he
  case pointer a0 =>
    cases hua : tUnd T a0 with
    | none => simp [hua] at he
    | some ka =>
    have hPa := tUnd_ok hx.T hua
    cases ka <;> simp only [hua, reduceCtorEq] at he ⊢
    case array n e0 =>
      rcases rm with ⟨rfl, rfl⟩ | ⟨z, Z, rfl, rfl, rz⟩
      · cases hi' : tInfo T e0 with
        | none => simp [hi'] at he
        | some te =>
        cases hX : opd kd c x with
        | none => simp [hi', hX] at he
        | some X =>
          simp only [hi', hX, e_asub] at he ⊢
          have rx := hx.O.v _ _ (by simp [Op.operands]) hX
          split at he
          · rename_i b o hb0
            split at he
            · rename_i l e cs hb hcs
              simp only [vlen_eq, Nat.add_zero] at he
              cases hbl : Nat.ble (o + n * te.sz) cs.length with
              | false => rw [hbl] at he; simp at he
              | true =>
                rw [hbl] at he
                have hfit := Nat.le_of_ble_eq_true hbl
                simp only [cond_true, Rs.ok.injEq] at he
                obtain ⟨rfl, rfl, rfl⟩ := he
                rw [hb0] at rx
                generalize hex : ev x = vx at rx
                cases rx with | p hmu =>
                rename_i c' β N
                obtain ⟨c2, β2, N2, hm2, hrow⟩ := hx.H.blk b _ hcs
                rw [hmu] at hm2
                cases hm2
                have hle := Row.le hrow
                obtain ⟨b1, b2, b3⟩ := bounds_ok hx.O hL hH hmem (cap := n) (fun j hj => Nat.le_of_ble_eq_true hj) hb
                have hek : e ≤ n := by rcases b1 with ⟨_, h⟩ | ⟨_, _, h⟩ <;> omega
                have hrun := run_bounds (P := P) (isS := false) (len := n) (cap := n) (l := l) (e := e) (m := n) (lo := lo.map ev) (hi := hi.map ev) (mx := none)
                  (by rcases b1 with ⟨h, h'⟩ | ⟨j, h, _⟩
                      · exact .inl ⟨h, h', rfl⟩
                      · exact .inr ⟨j, h⟩) b2 (.inl ⟨rfl, rfl⟩) b3 (fun _ => hek) (Nat.le_refl _) w
                have hs := slice_ok (mx := some (n - l)) (o := o) hmu (.inr rfl) (sz := te.sz) (k := n) (by omega) b3 hek (Nat.le_refl _) (by simp)
                refine Does.pure hx hs rfl ?_
                simp only [execOp, hex, Instr.sliceAt, Instr.slice, asAddr, Sem.run_bind, run_underlying hP, run_underlying hPa, Result.andThen_ok, Sem.run_pure, Option.map_none, hrun, run_sizeOf hx.T hi']
                split <;> rfl
            · cases he
          · cases he
      · simp at he
end Am
namespace Am
open Go
variable {P : Program} {T : TT} {call : CallT} {μ : Mp}

theorem bytesOf_ok : ∀ {cs : List V} {l : List Nat} {ys : List Value}, bytesOf cs = some l → VRs μ cs ys → ∃ ns : List Int, ys = ns.map (Value.int .u8) ∧ ns.map (fun n => (UInt8.ofNat n.toNat).toNat) = l
  | [], l, ys, h, hv => by simp [bytesOf] at h; subst h; cases hv; exact ⟨[], rfl, rfl⟩
  | v :: cs, l, ys, h, hv => by
    cases hv with | cons hv hr =>
    cases v with
    | i k n =>
      cases k <;> try (simp [bytesOf] at h; done)
      cases n with
      | negSucc n => simp [bytesOf] at h
      | ofNat n =>
        simp only [bytesOf] at h
        cases hb : Nat.blt n 256 with
        | false => rw [hb] at h; simp at h
        | true =>
          rw [hb] at h
          have hn : n < 256 := by simpa using hb
          simp only [cond_true] at h
          split at h
          · rename_i r hr'
            cases h
            obtain ⟨ns, rfl, h2⟩ := bytesOf_ok hr' hr
            cases hv
            refine ⟨Int.ofNat n :: ns, rfl, ?_⟩
            simp only [List.map_cons, h2]
            congr 1
            show (UInt8.ofNat n).toNat = n
            simp; omega
          · cases h
    | _ => simp [bytesOf] at h
theorem push_fold (ns : List Int) : ∀ s : ByteArray, (ns.foldl (fun r n => r.push (UInt8.ofNat n.toNat)) s).data.toList.map UInt8.toNat = s.data.toList.map UInt8.toNat ++ ns.map (fun n => (UInt8.ofNat n.toNat).toNat) := by
  induction ns with
  | nil => intro s; simp
  | cons n ns ih =>
    intro s
    simp only [List.foldl_cons]
    rw [ih]
    simp [ByteArray.push]
theorem run_b2s {w : World} {b β N o n k a : Nat} {cs : List V} {r : List V} {l : List Nat} (hr : Row μ cs w b β N) (hp : part cs o n = some r) (hb : bytesOf r = some l) (ha : n = 0 ∨ a = β + o) :
    ∃ y, (Conv.bytesToString (.slice (some ⟨b, a, none⟩) n k)).run P w = .ok (.string y) w ∧ y.data.toList.map UInt8.toNat = l := by
  obtain ⟨hlen, rfl, hle⟩ := part_some hp
  have main : ∀ ys : List Value, (loadCells ⟨b, a, none⟩ n).run P w = .ok ys.toArray w → VRs μ ((cs.drop o).take n) ys → ∃ y, (Conv.bytesToString (.slice (some ⟨b, a, none⟩) n k)).run P w = .ok (.string y) w ∧ y.data.toList.map UInt8.toNat = l := by
    intro ys h1 h2
    obtain ⟨ns, rfl, h3⟩ := bytesOf_ok hb h2
    refine ⟨_, run_bytesToString w _ n k ns h1, ?_⟩
    rw [push_fold, h3]
    rfl
  by_cases hn : n = 0
  · subst hn
    refine main [] (by simp [loadCells, loadCellsFrom]) ?_
    simp; exact .nil
  · have ha' : a = β + o := by omega
    subst ha'
    obtain ⟨ys, h1, h2, _⟩ := hr.load (P := P) o n (by omega)
    exact main ys h1 h2
theorem cellsOf_ok {h : H} {w : World} (hH : HRel μ h w) {x : V} {y : Value} (hv : VRel μ x y) {r : List V} {sz : Nat} (e : cellsOf h sz x = some r) :
    (x = .sn ∧ y = .slice none 0 0 ∧ r = []) ∨ ∃ b o n cap c' β N a k cs, x = .sl b o n sz cap ∧ y = .slice (some ⟨c', a, none⟩) n k ∧ Row μ cs w c' β N ∧ part cs o (n * sz) = some r ∧ (k = 0 ∨ a = β + o) ∧ n ≤ k ∧ μ b = some (c', β, N) ∧ h.get b = some (.cells cs) := by
  cases x <;> simp only [cellsOf, reduceCtorEq] at e
  case sn => cases hv; cases e; exact .inl ⟨rfl, rfl, rfl⟩
  case sl b o n sz' cap =>
    cases hb : Nat.beq sz' sz with
    | false => rw [hb] at e; simp at e
    | true =>
      rw [hb] at e
      have : sz' = sz := by simpa [Nat.beq_eq] using hb
      subst this
      simp only [cond_true] at e
      split at e
      · rename_i cs hcs
        cases hv with | sl hmu hn hc ha hN =>
        obtain ⟨c2, β2, N2, hm2, hrow⟩ := hH.blk b _ hcs
        rw [hmu] at hm2
        cases hm2
        exact .inr ⟨b, o, n, cap, _, _, _, _, _, cs, rfl, rfl, hrow, e, ha, hn, hmu, hcs⟩
      · cases e
theorem u8_ok {e : Nat} (hT : TOk P T) (h : u8 T e = true) : P.underlying e = some (.int .u8) := by
  unfold u8 at h
  split at h
  · rename_i hu; exact tUnd_ok hT hu
  · cases h
theorem encode_small (n : Nat) (h : n < 128) : (Utf8.encode (Int.ofNat n)).data.toList.map UInt8.toNat = [n] := by
  unfold Utf8.encode
  have hv : Utf8.valid (Int.ofNat n) = true := by
    unfold Utf8.valid
    have : (0 : Int) ≤ Int.ofNat n := by simp
    have h2 : Int.ofNat n < 0xD800 := by simp; omega
    simp
    omega
  simp only [hv, if_true]
  have : (Int.ofNat n).toNat = n := rfl
  rw [this, if_pos (by omega)]
  simp; omega
theorem vbytes_ok (y : ByteArray) : VRs μ (vbytes (y.data.toList.map UInt8.toNat)) (y.data.toList.map fun b => Value.int .u8 b.toNat) ∧ oneCells (y.data.toList.map fun b => Value.int .u8 b.toNat) := by
  constructor
  · generalize y.data.toList = l
    induction l with
    | nil => exact .nil
    | cons b l ih => exact .cons (.i _ _) ih
  · intro v hv
    rw [List.mem_map] at hv
    obtain ⟨b, _, rfl⟩ := hv
    rfl
theorem push_modify (h : Array Obj) (o : Obj) (f : Obj → Obj) : (h.push o).modify h.size f = h.push (f o) := by
  apply Array.ext_getElem?
  intro i
  rw [Array.getElem?_modify, Array.getElem?_push, Array.getElem?_push]
  by_cases hi : i = h.size
  · subst hi; simp
  · rw [if_neg (fun e => hi e.symm), if_neg hi, if_neg hi]
theorem run_s2b (y : ByteArray) (e : TypeId) (w : World) :
    ∃ (cap : Nat) (cells : Array Value) (fr : Nat × Nat), (Conv.stringToBytes e y).run P w = .ok (.slice (some ⟨w.heap.size, 0, none⟩) y.size cap) (w.drew.alloc (.cells cells e fr)) ∧ y.size ≤ cap ∧ cells.size = cap ∧ (fr.1 = cap ∧ fr.2 = cap + 1) ∧
      cells.toList = (y.data.toList.map fun b => Value.int .u8 b.toNat) ++ List.replicate (cap - y.size) (.int .u8 0) := by
  let q : Question := .appendCap y.size 0 e
  let cap := q.cut (w.tape w.drawn q)
  have hcap : y.size ≤ cap := by show y.size ≤ y.size + _; omega
  let cells : Array Value := (y.data.map fun (b : UInt8) => Value.int .u8 b.toNat) ++ Array.replicate (cap - y.size) (Value.int .u8 0)
  have hcs : cells.size = cap := by
    show ((y.data.map fun (b : UInt8) => Value.int .u8 b.toNat) ++ Array.replicate (cap - y.size) (Value.int .u8 0)).size = cap
    simp only [Array.size_append, Array.size_map, Array.size_replicate]
    have : y.data.size = y.size := rfl
    omega
  refine ⟨cap, cells, (cap, cap + 1), ?_, hcap, hcs, ⟨rfl, rfl⟩, ?_⟩
  · have hsh : (w.drew.alloc (.cells cells e)).shape? w.heap.size = some (e, cells.size) := by
      simp only [World.shape?, World.alloc]
      have : (w.drew.heap.push (.cells cells e))[w.heap.size]? = some (.cells cells e) := by
        rw [show w.heap.size = w.drew.heap.size from rfl, Array.getElem?_push, if_pos rfl]
      rw [this]
    have hfz : (w.drew.alloc (.cells cells e)).freeze ⟨w.heap.size, cells.size, none⟩ 1 = w.drew.alloc (.cells cells e (cap, cap + 1)) := by
      simp only [World.freeze, World.alloc]
      rw [if_neg (by omega)]
      have h1 : w.heap.size = w.drew.heap.size := rfl
      rw [h1, push_modify, hcs]
      simp
    simp only [Conv.stringToBytes, Sem.run_bind, run_choose]
    have hnf : (Question.appendCap y.size 0 e).forced = false := rfl
    rw [hnf]
    simp only [Bool.false_eq_true, if_false, Result.andThen_ok, newRow, Sem.run_bind, run_newObj, Sem.run_pure, markStringish, run_shape, World.drew_eq, World.alloc_eq]
    have h2 : (w.drew.alloc (.cells cells e)).shape? w.drew.heap.size = some (e, cells.size) := hsh
    have h3 : ((y.data.map fun (b : UInt8) => Value.int .u8 b.toNat) ++ Array.replicate ((Question.appendCap y.size 0 e).cut (w.tape w.drawn (Question.appendCap y.size 0 e)) - y.size) (Value.int .u8 0)) = cells := rfl
    rw [h3, h2]
    simp only [run_freeze, Result.andThen_ok]
    have h4 : w.drew.heap.size = w.heap.size := rfl
    rw [h4, hfz]
  · show ((y.data.map fun (b : UInt8) => Value.int .u8 b.toNat) ++ Array.replicate (cap - y.size) (Value.int .u8 0)).toList = _
    simp
theorem ok_convert (d : Option Nat) (src dst : Nat) (x : Operand) (ty : Nat) (pos : String) (af : Array Edge) (g : Option (Nat × Bool)) : OpOK P T call ⟨d, .convert src dst x, ty, pos, af, g⟩ := by
  intro kd c μ κ vs ts ls h w w₀ ev v ls' h' hx he
  simp only [compO] at he ⊢
  have hmem : x ∈ (Op.convert src dst x).operands := by simp [Op.operands]
  unfold convO at he ⊢
  split at he
  · -- bytes to a string
    rename_i e hs hd
    have hPs := tUnd_ok hx.T hs
    have hPd := tUnd_ok hx.T hd
    cases hu : u8 T e with
    | false => simp [hu, evO, e_no] at he
    | true =>
      have hPe := u8_ok hx.T hu
      simp only [hu, cond_true] at he ⊢
      have run : ∀ y y', ev x = y → (Conv.bytesToString y).run P w = .ok (.string y') w → (execOp ev ⟨d, .convert src dst x, ty, pos, af, g⟩).run P w = .ok (.value (.string y')) w := by
        intro y y' h1 h2
        have hcv : (convert src dst y).run P w = .ok (.string y') w := by
          simp only [convert, Sem.run_bind, run_underlying hPs, run_underlying hPd, Result.andThen_ok]
          cases y <;> simp only [run_underlying hPe, Sem.run_bind, Result.andThen_ok] <;> first | exact h2 | (simp [Conv.bytesToString] at h2)
        simp [execOp, h1, hcv]
      have heap : evO call vs ts ls h (match opd kd c x with | some x => O.b2s x | none => O.no) = .ok v ls' h' →
          Does P ⟨d, .convert src dst x, ty, pos, af, g⟩ ev w (Res μ κ h w w₀ (match opd kd c x with | some x => O.b2s x | none => O.no) none v ls' h') := by
        intro he
        cases hX : opd kd c x with
        | none => simp [hX, evO, e_no] at he
        | some X =>
          simp only [hX, evO, e_b2s] at he ⊢
          have rx := hx.O.v _ _ hmem hX
          split at he
          · rename_i cs hcs
            split at he
            · rename_i r hr
              simp only [Rs.ok.injEq] at he
              obtain ⟨rfl, rfl, rfl⟩ := he
              rcases cellsOf_ok hx.H rx hcs with ⟨_, hy, rfl⟩ | ⟨b, o, n, cap, c', β, N, a, k, cs', h1, h2, hrow, hp, ha, hn, hmu, hg⟩
              · simp [bytesOf] at hr
                subst hr
                exact Does.pure hx (y := .string .empty) (.s _ _ rfl) rfl (run _ _ hy rfl)
              · rw [Nat.mul_one] at hp
                obtain ⟨y, e1, e2⟩ := run_b2s (P := P) (k := k) hrow hp hr (ha.imp (fun h => by omega) id)
                exact Does.pure hx (y := .string y) (.s _ _ e2) rfl (run _ _ h2 e1)
            · cases he
          · cases he
      cases hl : lpl true kd c x with
      | none => simp only [hl] at he ⊢; exact heap he
      | some p =>
        obtain ⟨s, q⟩ := p
        cases q with
        | none => simp only [hl] at he ⊢; exact heap he
        | some q =>
          simp only [hl, evO, e_lb2s] at he ⊢
          split at he
          · rename_i o n cs hsl hcs
            split at he
            · rename_i r hr
              split at he
              · rename_i l hb
                simp only [Rs.ok.injEq] at he
                obtain ⟨rfl, rfl, rfl⟩ := he
                obtain ⟨b, a, k, hk, hev, ha, hn⟩ := hx.O.sl x s q o n cs hmem hl hsl hcs
                obtain ⟨b', hk', hrow, _⟩ := hx.L.blk s cs hcs
                rw [hk] at hk'
                cases hk'
                have ha' : n = 0 ∨ a = 0 + o := by omega
                obtain ⟨y, e1, e2⟩ := run_b2s (P := P) (k := k) hrow hr hb ha'
                exact Does.pure hx (y := .string y) (.s _ _ e2) rfl (run _ _ hev e1)
              · cases he
            · cases he
          · cases he
  · rename_i s k hs hd
    have hPs := tUnd_ok hx.T hs
    have hPd := tUnd_ok hx.T hd
    cases hX : opd kd c x with
    | none => simp [hX, evO, e_no] at he
    | some X =>
      simp only [hX, evO, e_cvI] at he ⊢
      split at he
      · rename_i k0 n hk
        simp only [Rs.ok.injEq] at he
        obtain ⟨rfl, rfl, rfl⟩ := he
        have rx := hx.O.v _ _ hmem hX
        rw [hk] at rx
        generalize hex : ev x = vx at rx
        cases rx
        refine Does.pure hx (.i _ _) rfl ?_
        rw [wr_eq]
        simp [execOp, convert, run_underlying hPs, run_underlying hPd, hex, Conv.intToInt]
      · cases he
  · rename_i k hs hd
    have hPs := tUnd_ok hx.T hs
    have hPd := tUnd_ok hx.T hd
    cases hX : opd kd c x with
    | none => simp [hX, evO, e_no] at he
    | some X =>
      simp only [hX, evO, e_i2s] at he ⊢
      split at he
      · rename_i k0 n hk
        cases hb : Nat.blt n 128 with
        | false => rw [hb] at he; simp at he
        | true =>
          rw [hb] at he
          have hn : n < 128 := by simpa using hb
          simp only [cond_true, Rs.ok.injEq] at he
          obtain ⟨rfl, rfl, rfl⟩ := he
          have rx := hx.O.v _ _ hmem hX
          rw [hk] at rx
          generalize hex : ev x = vx at rx
          cases rx
          exact Does.pure hx (y := .string (Utf8.encode (Int.ofNat n))) (.s _ _ (encode_small n hn)) rfl (by simp [execOp, convert, run_underlying hPs, run_underlying hPd, hex, Conv.intToString])
      · cases he
  · rename_i hs hd
    have hPs := tUnd_ok hx.T hs
    have hPd := tUnd_ok hx.T hd
    cases hX : opd kd c x with
    | none => simp [hX, evO, e_no] at he
    | some X =>
      simp only [hX, evO, e_same] at he ⊢
      split at he
      · rename_i r hk
        simp only [Rs.ok.injEq] at he
        obtain ⟨rfl, rfl, rfl⟩ := he
        have rx := hx.O.v _ _ hmem hX
        rw [hk] at rx
        generalize hex : ev x = vx at rx
        have rx' := rx
        cases rx
        exact Does.pure hx rx' rfl (by simp [execOp, convert, run_underlying hPs, run_underlying hPd, hex])
      · cases he
  · rename_i e hs hd
    have hPs := tUnd_ok hx.T hs
    have hPd := tUnd_ok hx.T hd
    cases hu : u8 T e with
    | false => simp [hu, evO, e_no] at he
    | true =>
      have hPe := u8_ok hx.T hu
      simp only [hu, cond_true] at he ⊢
      cases hX : opd kd c x with
      | none => simp [hX, evO, e_no] at he
      | some X =>
        simp only [hX, evO, e_s2b] at he ⊢
        split at he
        · rename_i r hk
          simp only [slen_eq, Nat.add_zero] at he
          cases hb : Nat.ble r.length 1099511627776 with
          | false => rw [hb] at he; simp at he
          | true =>
            rw [hb] at he
            simp only [cond_true, Rs.ok.injEq] at he
            obtain ⟨rfl, rfl, rfl⟩ := he
            have rx := hx.O.v _ _ hmem hX
            rw [hk] at rx
            generalize hex : ev x = vx at rx
            cases rx with | s _ y hy =>
            have hlen := bytes_len hy
            obtain ⟨cap, cells, fr, e1, e2, e3, e4, e5⟩ := run_s2b (P := P) y e w
            have hrun : (execOp ev ⟨d, .convert src dst x, ty, pos, af, g⟩).run P w = .ok (.value (.slice (some ⟨w.heap.size, 0, none⟩) y.size cap)) (w.drew.alloc (.cells cells e fr)) := by
              simp [execOp, convert, run_underlying hPs, run_underlying hPd, run_underlying hPe, hex, e1]
            have gr : Grew w (w.drew.alloc (.cells cells e fr)) (.cells cells e fr) := (Grew.alloc w.drew (.cells cells e fr)).drew
            have hv := vbytes_ok (μ := upd μ h.n (w.heap.size, 0, cap)) y
            rw [hy] at hv
            have hrow : Row (upd μ h.n (w.heap.size, 0, cap)) (vbytes r) (w.drew.alloc (.cells cells e fr)) w.heap.size 0 cap := by
              refine ⟨⟨cells, e, fr, gr.new, e3, fun i h1 h2 => by omega, fun i z hz => ?_⟩, ?_⟩
              · obtain ⟨z', hz', hzv⟩ := hv.1.get i z hz
                refine ⟨z', ?_, hzv, hv.2 z' (List.mem_of_getElem? hz')⟩
                rw [Nat.zero_add, ← Array.getElem?_toList, e5]
                have : i < (y.data.toList.map fun b => Value.int .u8 b.toNat).length := (List.getElem?_eq_some_iff.1 hz').1
                rw [List.getElem?_append_left this]
                exact hz'
              · have := hv.1.length
                rw [this, List.length_map, Array.length_toList]
                show 0 + y.size ≤ cap
                omega
            have hN := hx.H.new gr (.cells (vbytes r)) cap hrow
            refine Does.heap hx hN (Fr.new hx.H gr (.cells (vbytes r)) cap) (y := .slice (some ⟨w.heap.size, 0, none⟩) y.size cap) ?_ rfl (.inl hrun)
            rw [← hlen]
            exact .sl (β := 0) (upd_self _ _) e2 (by simp) (.inr rfl) (by omega)
        · cases he
  · simp [evO, e_no] at he
end Am
namespace Am
open Go
variable {P : Program} {T : TT} {call : CallT} {μ : Mp}

theorem zeroCells_eq (z : Array Value) (sz n : Nat) (hz : z.size = sz) (hp : 0 < sz) : (Builtin.zeroCells z n).toList = (List.replicate n z.toList).flatten := by
  unfold Builtin.zeroCells
  rw [hz]
  have := zeros_eq n z sz hz hp
  rw [hz] at this
  exact this
theorem VRs.oneFlat {z : Array Value} (h : oneCells z.toList) (n : Nat) : oneCells (List.replicate n z.toList).flatten := by
  intro y hy
  rw [List.mem_flatten] at hy
  obtain ⟨l, hl, hy⟩ := hy
  rw [List.mem_replicate] at hl
  rw [hl.2] at hy
  exact h y hy
theorem firstCells_H {w : World} {b β N o n k a sz : Nat} {cs : List V} {r : List V} (hr : Row μ cs w b β N) (hp : part cs o (n * sz) = some r) (ha : n * sz = 0 ∨ a = β + o) :
    ∃ ys : List Value, (∀ w1 : World, w1.heap = w.heap → (Builtin.firstCells sz n (.slice (some ⟨b, a, none⟩) n k)).run P w1 = .ok ys.toArray w1) ∧ VRs μ r ys ∧ oneCells ys := by
  obtain ⟨hlen, rfl, hle⟩ := part_some hp
  by_cases hn : n * sz = 0
  · refine ⟨[], fun w1 _ => ?_, ?_, by simp [oneCells]⟩
    · simp [Builtin.firstCells, hn, loadCells, loadCellsFrom]
    · rw [hn]; simp; exact .nil
  · have ha' : a = β + o := by omega
    subst ha'
    obtain ⟨ys, h1, h2, h3⟩ := hr.loadH (P := P) o (n * sz) (by omega)
    exact ⟨ys, fun w1 hw => by simpa [Builtin.firstCells] using h1 w1 hw, h2, h3⟩
theorem firstCells_some {w : World} {b β N o n k a sz : Nat} {cs : List V} {r : List V} (hr : Row μ cs w b β N) (hp : part cs o (n * sz) = some r) (ha : n * sz = 0 ∨ a = β + o) :
    ∃ ys : List Value, (Builtin.firstCells sz n (.slice (some ⟨b, a, none⟩) n k)).run P w = .ok ys.toArray w ∧ VRs μ r ys ∧ oneCells ys :=
  let ⟨ys, h1, h2⟩ := firstCells_H (k := k) hr hp ha
  ⟨ys, h1 w rfl, h2⟩
theorem Row.drew {cs : List V} {w : World} {b β N : Nat} (h : Row μ cs w b β N) : Row μ cs w.drew b β N := h.mono (Ext.refl _) rfl
theorem Fr.drew {h : H} {w : World} : Fr μ h w μ h w.drew := ⟨Ext.refl _, Nat.le_refl _, Nat.le_refl _, fun _ _ _ => rfl, fun _ h => .inl h, rfl, rfl, rfl, rfl⟩

theorem Row.tail {cs : List V} {w : World} {c β N : Nat} (h : Row μ cs w c β N) (o m : Nat) (ho : β + o + m ≤ N) : Row μ ((cs.drop o).take m) w c (β + o) N := by
  obtain ⟨⟨C, e, fr, hc, hs, hf, hv⟩, hl⟩ := h
  refine ⟨⟨C, e, fr, hc, hs, hf, fun i x hx => ?_⟩, by simp; omega⟩
  rw [List.getElem?_take] at hx
  split at hx
  · rw [List.getElem?_drop] at hx
    rw [Nat.add_assoc]
    exact hv (o + i) x hx
  · cases hx
theorem Row.push1 {cs : List V} {w : World} {c β N : Nat} (h : Row μ cs w c β N) (x : V) (y : Value) (hv : VRel μ x y) (ho : y.oneCell' = true) (hlt : β + cs.length < N) :
    Row μ (cs ++ [x]) (w.setCell ⟨c, β + cs.length, none⟩ y) c β N := by
  obtain ⟨⟨C, e, fr, hc, hs, hf, hvs⟩, hl⟩ := h
  refine ⟨⟨C.setIfInBounds (β + cs.length) y, e, fr, ?_, by simpa using hs, hf, ?_⟩, by simp; omega⟩
  · simp [World.setCell, Array.getElem?_modify, hc]
  · intro j z hz
    by_cases hj : j < cs.length
    · rw [List.getElem?_append_left hj] at hz
      obtain ⟨y', hy', a, b⟩ := hvs j z hz
      exact ⟨y', by rw [Array.getElem?_setIfInBounds_ne (by omega)]; exact hy', a, b⟩
    · rw [List.getElem?_append_right (by omega)] at hz
      have : j = cs.length := by
        rcases Nat.lt_or_ge cs.length j with h' | h'
        · rw [List.getElem?_eq_none (by simp; omega)] at hz; cases hz
        · omega
      subst this
      simp at hz; subst hz
      exact ⟨y, by rw [Array.getElem?_setIfInBounds_self_of_lt (by omega)], hv, ho⟩
theorem Row.push {c β N : Nat} : ∀ (new : List V) (ys : List Value) (w : World) (cs : List V) (i a : Nat), a + i = β + cs.length → VRs μ new ys → oneCells ys → β + cs.length + new.length ≤ N → Row μ cs w c β N →
    ∃ w', (storeCells ⟨c, a, none⟩ ys i).run P w = .ok () w' ∧ Row μ (cs ++ new) w' c β N ∧ Only w w' c
  | [], _, w, cs, i, a, _, .nil, _, _, hr => ⟨w, by simp [storeCells], by simpa using hr, Only.refl _ _⟩
  | x :: new, _, w, cs, i, a, ha, .cons (y := y) (r := ys) hx hv, ho, hn, hr => by
    have hoy : y.oneCell' = true := ho y (by simp)
    simp at hn
    obtain ⟨u, hu⟩ := hr.inside (β + cs.length) (by omega)
    have hfr := hr.frozen (β + cs.length) (by omega)
    obtain ⟨w', h1, h2, h3⟩ := Row.push new ys (w.setCell ⟨c, β + cs.length, none⟩ y) (cs ++ [x]) (i + 1) a (by simp; omega) hv (fun z hz => ho z (by simp [hz])) (by simp; omega) (hr.push1 x y hx hoy (by omega))
    refine ⟨w', ?_, by simpa using h2, (setCell_only _ _ _ _).trans h3⟩
    simp only [storeCells, Sem.run_bind, add_off]
    rw [run_store P w _ y _ hoy, ha, hu]
    simp only [hfr, Bool.false_eq_true, if_false, Result.andThen_ok]
    exact h1

theorem append_ok {t u ty : Nat} {e : Nat} {ti : TI} (hT : TOk P T) (hu : P.underlying t = some (.slice e)) (hi : tInfo T e = some ti) {du : TypeDesc} (huu : P.underlying u = some du) (hdu : ∀ k, du ≠ .int k)
    {h h' : H} {w : World} (hH : HRel μ h w) {s v : V} {s' x' : Value} (hs : VRel μ s s') {new : List V} {ys : List Value} (hv : VRs μ new ys) (ho : oneCells ys) {k : Nat}
    (hlen : ∀ w, (Builtin.lenOf x').run P w = .ok k w) (hfc : ∀ w1, (w1 = w ∨ w1 = w.drew) → (Builtin.firstCells ti.sz k x').run P w1 = .ok ys.toArray w1) (hnl : new.length = k * ti.sz)
    (ea : append h s k ti.sz ti.by_ new = some (v, h')) :
    ∃ y w' μ', (Builtin.append_ #[t, u] ty #[s', x']).run P w = .ok y w' ∧ HRel μ' h' w' ∧ Fr μ h w μ' h' w' ∧ VRel μ' v y := by
  obtain ⟨i, z, d, hPi, hz, hzv, hsz, hby, h0, h1, _, _, hzc, hzl⟩ := tInfo_ok hT hi
  obtain ⟨z', hz', hzr, hzvc, hzo, hzs⟩ := run_zeroValue hT hi w.drew
  have hnot : (match du with | .int _ => true | _ => false) = false := by cases du <;> first | rfl | exact absurd rfl (hdu _)
  have hh : (P.underlying t) = some (.slice e) := hu
  -- growing
  have grow : ∀ (base : Option Addr) (sLen sCap : Nat) (old : List V) (olds : List Value) (h2 : H), s' = .slice base sLen sCap → ¬ (sLen + k ≤ sCap) → (sLen + k) * ti.by_ ≤ 1099511627776 → 
      (Builtin.firstCells ti.sz sLen (.slice base sLen sCap)).run P w.drew = .ok olds.toArray w.drew → VRs μ old olds → oneCells olds → old.length = sLen * ti.sz → HRel μ h2 w → Fr μ h w μ h2 w →
      ∃ y w' μ', (Builtin.append_ #[t, u] ty #[s', x']).run P w = .ok y w' ∧ HRel μ' (h2.new (.cells (old ++ new))) w' ∧ Fr μ h w μ' (h2.new (.cells (old ++ new))) w' ∧ VRel μ' (.sl h2.n 0 (sLen + k) ti.sz none) y := by
    intro base sLen sCap old olds h2 hs' hneed hbytes hold hvo hoo hol hH2 hF2
    let q : Question := .appendCap (sLen + k) sCap e
    let cap := q.cut (w.tape w.drawn q)
    have hcap : sLen + k ≤ cap := by show sLen + k ≤ sLen + k + _; omega
    let rest := Builtin.zeroCells z'.cells (cap - (sLen + k))
    have hrest := zeroCells_eq z'.cells ti.sz (cap - (sLen + k)) hzs h0
    have hn1 : ¬ (((sLen + k : Nat) : Int) > IntKind.i64.max ∧ i.bytes = 0) := by rw [hby]; omega
    have hn2 : ¬ Builtin.nextslicecap (sLen + k) sCap * i.bytes > 2 ^ 48 := by
      have := growslice_fits (need := sLen + k) (old := sCap) (bytes := i.bytes) (by omega) (by rw [hby]; omega)
      omega
    have hrun : (Builtin.append_ #[t, u] ty #[s', x']).run P w = .ok (.slice (some ⟨w.heap.size, 0, none⟩) (sLen + k) cap) (w.drew.alloc (.cells (olds.toArray ++ ys.toArray ++ rest) e)) := by
      have hnf : (Question.appendCap (sLen + k) sCap e).forced = false := rfl
      subst hs'
      simp only [Builtin.append_, List.getElem?_toArray, List.getElem?_cons_zero, List.getElem?_cons_succ, Sem.run_bind, run_underlying hh, run_sizeOf hT hi, run_underlying huu, Result.andThen_ok, Sem.run_pure]
      have h3 := hfc w.drew (.inr rfl)
      simp only [Bool.false_eq_true, if_false, Sem.run_bind, hlen, Result.andThen_ok, hneed, run_typeInfo hPi, false_or, hn1, hn2, run_choose, hnf, run_askRoom, World.drew_eq, hold, Bool.not_false, if_true, h3, hz', newRow, run_newObj, Sem.run_pure]
      rfl
    have gr : Grew w (w.drew.alloc (.cells (olds.toArray ++ ys.toArray ++ rest) e)) (.cells (olds.toArray ++ ys.toArray ++ rest) e) := (Grew.alloc w.drew _).drew
    have hN := hH2.new gr (.cells (old ++ new)) ((old ++ new).length + rest.toList.length) (by
      have hvv := (hvo.append hv).mono (upd_ext (hH2.dom h2.n (Nat.le_refl _)) (r := (w.heap.size, 0, (old ++ new).length + rest.toList.length)))
      have := Row.new w.drew (old ++ new) (olds ++ ys) e hvv (by intro y hy; rcases List.mem_append.1 hy with h | h; exact hoo y h; exact ho y h) rest.toList
      have e1 : (olds ++ ys ++ rest.toList).toArray = olds.toArray ++ ys.toArray ++ rest := by simp
      rw [e1] at this
      exact this)
    refine ⟨_, _, _, hrun, hN, hF2.trans (Fr.new hH2 gr _ _), .sl (β := 0) (upd_self _ _) hcap (by simp) (.inr rfl) ?_⟩
    rw [hrest, List.length_append, hol, hnl]
    have : z'.cells.toList.length = ti.sz := by simpa using hzs
    simp [hzs]
    rw [← Nat.add_mul, ← Nat.add_mul]
    exact Nat.mul_le_mul_right _ (by omega)
  cases hs with
  | sn =>
    simp only [append] at ea
    cases hk : Nat.beq k 0 with
    | true =>
      have hk0 : k = 0 := by simpa [Nat.beq_eq] using hk
      subst hk0
      rw [hk] at ea
      simp at ea
      obtain ⟨rfl, rfl⟩ := ea
      refine ⟨.slice none 0 0, w, μ, ?_, hH, Fr.refl _ _ _, .sn⟩
      have h3 := hfc w (.inl rfl)
      simp only [Builtin.append_, List.getElem?_toArray, List.getElem?_cons_zero, List.getElem?_cons_succ, Sem.run_bind, run_underlying hh, run_sizeOf hT hi, run_underlying huu, Result.andThen_ok, Sem.run_pure]
      simp only [Bool.false_eq_true, if_false, Sem.run_bind, hlen, Result.andThen_ok, Nat.add_zero, Nat.le_refl, if_true, Bool.not_false, h3, Sem.run_pure]
    | false =>
      rw [hk] at ea
      have hk0 : k ≠ 0 := fun e => by rw [e] at hk; cases hk
      simp only [cond_false] at ea
      cases hb : Nat.ble (k * ti.by_) 1099511627776 with
      | false => rw [hb] at ea; simp at ea
      | true =>
        rw [hb] at ea
        simp at ea
        obtain ⟨rfl, rfl⟩ := ea
        have := grow none 0 0 [] [] h rfl (by omega) (by rw [Nat.zero_add]; exact Nat.le_of_ble_eq_true hb) (by simp [Builtin.firstCells]) .nil (by simp [oneCells]) (by simp) hH (Fr.refl _ _ _)
        simpa using this
  | sl hmu hn hc ha hN =>
    rename_i b o n sz c' β N a kk cap
    simp only [append] at ea
    cases hsz' : Nat.beq ti.sz sz with
    | false => rw [hsz'] at ea; simp at ea
    | true =>
    have : ti.sz = sz := by simpa [Nat.beq_eq] using hsz'
    subst this
    rw [hsz'] at ea
    simp only [Bool.not_true, cond_false] at ea
    cases hk : Nat.beq k 0 with
    | true =>
      have hk0 : k = 0 := by simpa [Nat.beq_eq] using hk
      subst hk0
      rw [hk] at ea
      simp at ea
      obtain ⟨rfl, rfl⟩ := ea
      refine ⟨.slice (some ⟨c', a, none⟩) n kk, w, μ, ?_, hH, Fr.refl _ _ _, .sl hmu hn hc ha hN⟩
      have h3 := hfc w (.inl rfl)
      have hys : ys = [] := by
        have := hv.length
        rw [hnl] at this
        simp at this
        exact List.eq_nil_of_length_eq_zero this.symm
      simp only [Builtin.append_, List.getElem?_toArray, List.getElem?_cons_zero, List.getElem?_cons_succ, Sem.run_bind, run_underlying hh, run_sizeOf hT hi, run_underlying huu, Result.andThen_ok, Sem.run_pure]
      simp only [Bool.false_eq_true, if_false, Sem.run_bind, hlen, Result.andThen_ok, Nat.add_zero, hn, if_true, Bool.not_false, h3, Sem.run_pure, hys, storeCells]
    | false =>
      have hk0 : k ≠ 0 := fun e => by rw [e] at hk; cases hk
      rw [hk] at ea
      simp only [cond_false] at ea
      split at ea
      · rename_i cs hcs
        split at ea
        · cases ea
        · rename_i old hold
          cases hb : Nat.ble ((n + k) * ti.by_) 1099511627776 with
          | false => rw [hb] at ea; simp at ea
          | true =>
          rw [hb] at ea
          have hbytes := Nat.le_of_ble_eq_true hb
          simp only [Bool.not_true, cond_false] at ea
          obtain ⟨c2, β2, N2, hm2, hrow⟩ := hH.blk b _ hcs
          rw [hmu] at hm2
          cases hm2
          have hrow' : Row μ cs w c' β N := hrow
          obtain ⟨hol, hold', holle⟩ := part_some hold
          have haa : n * ti.sz = 0 ∨ a = β + o := by
            rcases ha with h | h
            · left
              have : n = 0 := by omega
              subst this; simp
            · exact .inr h
          obtain ⟨olds, ho1, ho2, ho3⟩ := firstCells_some (P := P) (k := kk) (sz := ti.sz) hrow'.drew hold haa
          -- in place
          have inplace : n + k ≤ kk → ∀ w', (storeCells ⟨c', β + (o + n * ti.sz), none⟩ ys).run P w = .ok () w' → (Builtin.append_ #[t, u] ty #[.slice (some ⟨c', a, none⟩) n kk, x']).run P w = .ok (.slice (some ⟨c', a, none⟩) (n + k) kk) w' := by
            intro hle w' hst
            have ha' : a = β + o := by rcases ha with h | h <;> omega
            subst ha'
            have h3 := hfc w (.inl rfl)
            simp only [Builtin.append_, List.getElem?_toArray, List.getElem?_cons_zero, List.getElem?_cons_succ, Sem.run_bind, run_underlying hh, run_sizeOf hT hi, run_underlying huu, Result.andThen_ok, Sem.run_pure]
            simp only [Bool.false_eq_true, if_false, Sem.run_bind, hlen, Result.andThen_ok, hle, if_true, Bool.not_false, h3, Sem.run_pure, add_off]
            rw [Nat.add_assoc, hst]
            rfl
          cases cap with
          | none =>
            simp only [Option.some.injEq, Prod.mk.injEq] at ea
            obtain ⟨rfl, rfl⟩ := ea
            rw [vapp_eq]
            by_cases hle : n + k ≤ kk
            · -- the old block goes on
              have ha' : a = β + o := by rcases ha with h | h <;> omega
              have hroom : β + o + (n + k) * ti.sz ≤ N := by
                have : (n + k) * ti.sz ≤ kk * ti.sz := Nat.mul_le_mul_right _ hle
                omega
              -- the cells behind are there, whatever they hold
              have hadd : (n + k) * ti.sz = n * ti.sz + k * ti.sz := Nat.add_mul _ _ _
              have hrt := hrow'.tail o (n * ti.sz) (by omega)
              rw [← hold'] at hrt
              obtain ⟨w', hst, hr2, hon⟩ := Row.push (P := P) new ys w old 0 (β + (o + n * ti.sz)) (by rw [hol]; omega) hv ho (by rw [hnl, hol]; omega) hrt
              have hdm := hH.dom h.n (Nat.le_refl _)
              have hr3 : BRel (upd μ h.n (c', β + o, N)) w' c' (β + o) N (.cells (old ++ new)) := Row.mono hr2 (upd_ext hdm) rfl
              refine ⟨_, w', _, inplace hle w' hst, HRel.move hH hcs hmu hon hr3, Fr.move hH hcs hmu hon, .sl (β := β + o) (upd_self _ _) hle (by simp) (.inr (by omega)) (by omega)⟩
            · exact grow (some ⟨c', a, none⟩) n kk old olds (h.set b none) rfl hle hbytes ho1 ho2 ho3 hol (hH.die b) (Fr.die b)
          | some cc =>
            have hcc := hc cc rfl
            subst hcc
            simp only at ea
            cases hle : Nat.ble (n + k) kk with
            | true =>
              rw [hle] at ea
              simp only [cond_true] at ea
              split at ea
              · rename_i cs2 hw
                simp only [Option.some.injEq, Prod.mk.injEq] at ea
                obtain ⟨rfl, rfl⟩ := ea
                have hle' := Nat.le_of_ble_eq_true hle
                obtain ⟨hfit, rfl⟩ := wrt_some hw
                obtain ⟨w', hst, hr2, hon⟩ := hrow'.store (P := P) (o + n * ti.sz) new ys hv ho hfit
                refine ⟨_, w', μ, inplace hle' w' hst, hH.put hcs hmu hon hr2, Fr.put hcs hmu hon, .sl hmu hle' hc ha hN⟩
              · cases ea
            | false =>
              rw [hle] at ea
              simp only [cond_false, Option.some.injEq, Prod.mk.injEq] at ea
              obtain ⟨rfl, rfl⟩ := ea
              rw [vapp_eq]
              have hle' : ¬ n + k ≤ kk := fun h => by rw [Nat.ble_eq_true_of_le h] at hle; cases hle
              exact grow (some ⟨c', a, none⟩) n kk old olds h rfl hle' hbytes ho1 ho2 ho3 hol hH (Fr.refl _ _ _)
      · cases ea
  | _ => simp [append] at ea
end Am
namespace Am
open Go
variable {P : Program} {T : TT} {call : CallT} {μ : Mp}
/-- what a call of a function does -/
def CDoes (P : Program) (f : FuncId) (args : Array Value) (w : World) (R : Value → World → Prop) : Prop :=
  (∃ y w', R y w' ∧ (callFunc f args).run P w = .ok (.value y) w') ∨
  ∃ w1, (callFunc f args).run P w = .ok (.enter f args) w1 ∧ Calls P f args w1 fun
    | .returned y, w' => R y w'
    | .outgrown, _ => False
    | .panicked _, _ => False
def CallOK (P : Program) (call : CallT) : Prop :=
  ∀ f args h r h', call f args h = some (r, h') → ∀ μ w args', HRel μ h w → VRs μ args args'.toList →
    CDoes P f args' w fun y w' => ∃ μ', HRel μ' h' w' ∧ Fr μ h w μ' h' w' ∧ VRel μ' r y

theorem run_builtin {b : Builtin} {ev : Operand → Value} {d : Option Nat} {args : Array Operand} {at_ : Array TypeId} {ty : Nat} {pos : String} {af : Array Edge} {g : Option (Nat × Bool)} {w w' : World} {y : Value} {s : Sem Value}
    (hs : ∀ consts, builtin b at_ ty consts (args.map ev) = (do pure (.value (← s)))) (h : s.run P w = .ok y w') :
    (execOp ev ⟨d, .call ⟨.builtin b, args, at_⟩, ty, pos, af, g⟩).run P w = .ok (.value y) w' := by
  simp [execOp, resolve, invoke, hs, h]
theorem Rs.ofP_ok {ls ls' : Ls} {h' : H} {x : Option (V × H)} {v : V} (e : Rs.ofP ls x = .ok v ls' h') : x = some (v, h') ∧ ls' = ls := by
  cases x with
  | none => simp [Rs.ofP] at e
  | some p => obtain ⟨a, b⟩ := p; simp [Rs.ofP] at e; obtain ⟨rfl, rfl, rfl⟩ := e; exact ⟨rfl, rfl⟩

theorem ok_append (d : Option Nat) (args : Array Operand) (at_ : Array TypeId) (ty : Nat) (pos : String) (af : Array Edge) (g : Option (Nat × Bool)) : OpOK P T call ⟨d, .call ⟨.builtin .append, args, at_⟩, ty, pos, af, g⟩ := by
  intro kd c μ κ vs ts ls h w w₀ ev v ls' h' hx he
  obtain ⟨args⟩ := args
  obtain ⟨at_⟩ := at_
  rcases args with _ | ⟨x, _ | ⟨y, _ | ⟨z, r⟩⟩⟩ <;> rcases at_ with _ | ⟨t, _ | ⟨u, _ | ⟨q, r'⟩⟩⟩ <;> try (simp [compO, callO, evO, e_no] at he; done)
  simp only [compO, callO] at he ⊢
  cases ht : tUnd T t with
  | none => simp [ht, evO, e_no] at he
  | some dt =>
  rw [ht] at he
  cases dt <;> try (simp [evO, e_no] at he; done)
  rename_i e
  simp only at he ⊢
  have hP := tUnd_ok hx.T ht
  cases hi : tInfo T e with
  | none => simp [hi, evO, e_no] at he
  | some ti =>
  cases hX : opd kd c x with
  | none => simp [hi, hX, evO, e_no] at he
  | some X =>
  have rx := hx.O.v _ _ (by simp [Op.operands, Call.operands]) hX
  simp only [hi, hX] at he ⊢
  have fin : ∀ {h' : H} {op : O} (x' : Value), boxed op = none → ev y = x' → (∃ z w' μ', (Builtin.append_ #[t, u] ty #[ev x, x']).run P w = .ok z w' ∧ HRel μ' h' w' ∧ Fr μ h w μ' h' w' ∧ VRel μ' v z) →
      Does P ⟨d, .call ⟨.builtin .append, ⟨[x, y]⟩, ⟨[t, u]⟩⟩, ty, pos, af, g⟩ ev w (Res μ κ h w w₀ op none v ls h') := by
    intro h' op x' hb hy ⟨z, w', μ', h1, h2, h3, h4⟩
    refine Does.heap hx h2 h3 h4 hb (.inl (run_builtin (s := Builtin.append_ #[t, u] ty #[ev x, x']) (fun consts => ?_) h1))
    subst hy
    simp [builtin]
  cases hu : tUnd T u with
  | none => simp [hu, evO, e_no] at he
  | some du =>
  rw [hu] at he
  have hPu := tUnd_ok hx.T hu
  cases du <;> try (simp [evO, e_no] at he; done)
  case string =>
    simp only at he ⊢
    cases hY : opd kd c y with
    | none => simp [hY, evO, e_no] at he
    | some Y =>
    have ry := hx.O.v _ _ (by simp [Op.operands, Call.operands]) hY
    cases hs : Nat.beq ti.sz 1 with
    | false => simp [hs, hY, evO, e_no] at he
    | true =>
    have hs1 : ti.sz = 1 := by simpa [Nat.beq_eq] using hs
    simp only [hY, hs, cond_true, evO, e_appS] at he ⊢
    split at he
    · rename_i r hr
      obtain ⟨ea, rfl⟩ := Rs.ofP_ok he
      rw [hr] at ry
      generalize hvy : ev y = y' at ry
      cases ry with | s l s' hl =>
      have hv := vbytes_ok (μ := μ) s'
      rw [hl] at hv
      have hsz := bytes_len hl
      rw [← hs1] at ea
      rw [slen_eq, Nat.add_zero] at ea
      refine fin _ rfl hvy (append_ok hx.T hP hi hPu (by intro k h; cases h) hx.H rx hv.1 hv.2 (k := r.length) (fun w => by simp [Builtin.lenOf, hsz]) (fun w1 _ => ?_) ?_ ea)
      · simp only [Builtin.firstCells, Sem.run_pure]
        congr 1
        rw [← hsz]
        apply Array.ext'
        simp
      · have := hv.1.length
        rw [this, hs1]
        simp [← hl]
    · cases he
  case slice e' =>
    simp only at he ⊢
    have heap : evO call vs ts ls h (match opd kd c y with | some y => O.app X y ti.sz ti.by_ | none => O.no) = .ok v ls' h' →
        Does P ⟨d, .call ⟨.builtin .append, ⟨[x, y]⟩, ⟨[t, u]⟩⟩, ty, pos, af, g⟩ ev w (Res μ κ h w w₀ (match opd kd c y with | some y => O.app X y ti.sz ti.by_ | none => O.no) none v ls' h') := by
      intro he
      cases hY : opd kd c y with
      | none => simp [hY, evO, e_no] at he
      | some Y =>
      have ry := hx.O.v _ _ (by simp [Op.operands, Call.operands]) hY
      simp only [hY, evO, e_app] at he ⊢
      split at he
      · rename_i new hnew
        obtain ⟨ea, rfl⟩ := Rs.ofP_ok he
        rcases cellsOf_ok hx.H ry hnew with ⟨h1, hy, rfl⟩ | ⟨b, o, n, cap, c', β, N, a, k, cs', h1, h2, hrow, hp, ha, hn, hmu, hg⟩
        · rw [h1] at ea
          exact fin _ rfl hy (append_ok hx.T hP hi hPu (by intro k h; cases h) hx.H rx .nil (by simp [oneCells]) (k := 0) (fun w => by simp [Builtin.lenOf]) (fun w1 _ => by simp [Builtin.firstCells]) (by simp) ea)
        · rw [h1] at ea
          have ha' : n * ti.sz = 0 ∨ a = β + o := by
            rcases ha with h | h
            · left
              have : n = 0 := by omega
              subst this; simp
            · exact .inr h
          obtain ⟨ys, f1, f2, f3⟩ := firstCells_H (P := P) (k := k) hrow hp ha'
          exact fin _ rfl h2 (append_ok hx.T hP hi hPu (by intro k h; cases h) hx.H rx f2 f3 (k := n) (fun w => by simp [Builtin.lenOf]) (fun w1 hw => f1 w1 (by rcases hw with rfl | rfl <;> rfl)) (part_some hp).1 ea)
      · cases he
    cases hl : lpl true kd c y with
    | none => simp only [hl] at he ⊢; exact heap he
    | some p =>
      obtain ⟨s, q⟩ := p
      cases q with
      | none => simp only [hl] at he ⊢; exact heap he
      | some q =>
        simp only [hl, evO, e_appL] at he ⊢
        split at he
        · rename_i p n cs hd hs
          split at he
          · rename_i new hnew
            obtain ⟨ea, rfl⟩ := Rs.ofP_ok he
            obtain ⟨b, q', k, hk, hy, hq, hn⟩ := hx.O.sl _ _ _ _ _ _ (by simp [Op.operands, Call.operands]) hl hd hs
            obtain ⟨b', hb', hrow, _, _⟩ := hx.L.blk s cs hs
            rw [hk] at hb'
            cases hb'
            have ha' : n * ti.sz = 0 ∨ q' = 0 + p := by
              rcases hq with h | h
              · left
                have : n = 0 := by omega
                subst this; simp
              · right; omega
            obtain ⟨ys, f1, f2, f3⟩ := firstCells_H (P := P) (k := k) hrow hnew ha'
            exact fin _ rfl hy (append_ok hx.T hP hi hPu (by intro k h; cases h) hx.H rx f2 f3 (k := n) (fun w => by simp [Builtin.lenOf]) (fun w1 hw => f1 w1 (by rcases hw with rfl | rfl <;> rfl)) (part_some hnew).1 ea)
          · cases he
        · cases he
end Am
namespace Am
open Go
variable {P : Program} {T : TT} {call : CallT} {μ : Mp}
theorem getObj_run {r : Nat} {E : Array MapEntry} {k : Nat} {w : World} (h : w.heap[r]? = some (.map E k)) : (getObj r).run P w = .ok (.map E k) w := by
  simp [getObj, Sem.run, h]
theorem ok_len (d : Option Nat) (args : Array Operand) (at_ : Array TypeId) (ty : Nat) (pos : String) (af : Array Edge) (g : Option (Nat × Bool)) : OpOK P T call ⟨d, .call ⟨.builtin .len, args, at_⟩, ty, pos, af, g⟩ := by
  intro kd c μ κ vs ts ls h w w₀ ev v ls' h' hx he
  obtain ⟨args⟩ := args
  obtain ⟨at_⟩ := at_
  rcases args with _ | ⟨x, _ | ⟨y, r⟩⟩ <;> rcases at_ with _ | ⟨t, _ | ⟨u, r'⟩⟩ <;> try (simp [compO, callO, evO, e_no] at he; done)
  simp only [compO, callO] at he ⊢
  cases ht : tUnd T t with
  | none => simp [ht, evO, e_no] at he
  | some dt =>
  rw [ht] at he
  have hP := tUnd_ok hx.T ht
  have fin : ∀ {op : O} (n : Nat), boxed op = none → ls' = ls → h' = h → v = .i .i64 (.ofNat n) → (Builtin.len_ #[t] ty #[ev x]).run P w = .ok (goInt n) w →
      Does P ⟨d, .call ⟨.builtin .len, ⟨[x]⟩, ⟨[t]⟩⟩, ty, pos, af, g⟩ ev w (Res μ κ h w w₀ op none v ls' h') := by
    intro op n hb h1 h2 hv h3
    subst h1 h2 hv
    exact Does.pure hx (.i _ _) hb (run_builtin (s := Builtin.len_ #[t] ty #[ev x]) (fun consts => by simp [builtin]) h3)
  cases dt <;> try (simp [evO, e_no] at he; done)
  case string =>
    simp only at he ⊢
    cases hX : opd kd c x with
    | none => simp [hX, evO, e_no] at he
    | some X =>
    have rx := hx.O.v _ _ (by simp [Op.operands, Call.operands]) hX
    simp only [hX, evO, e_lenS] at he ⊢
    split at he
    · rename_i r hr
      rw [hr] at rx
      generalize hvy : ev x = y' at rx
      cases rx with | s l s' hl =>
      simp only [Rs.ok.injEq, slen_eq, Nat.add_zero] at he
      obtain ⟨rfl, rfl, rfl⟩ := he
      refine fin _ rfl rfl rfl rfl ?_
      simp only [Builtin.len_, List.getElem?_toArray, List.getElem?_cons_zero, Sem.run_bind, run_underlying hP, Result.andThen_ok, hvy, Sem.run_pure, bytes_len hl]
    · cases he
  case array n e =>
    simp only [evO, e_lenA, Rs.ok.injEq] at he ⊢
    obtain ⟨rfl, rfl, rfl⟩ := he
    refine fin _ rfl rfl rfl rfl ?_
    simp only [Builtin.len_, List.getElem?_toArray, List.getElem?_cons_zero, Sem.run_bind, run_underlying hP, Result.andThen_ok, Sem.run_pure]
  case slice e =>
    simp only at he ⊢
    cases hX : opd kd c x with
    | none => simp [hX, evO, e_no] at he
    | some X =>
    have rx := hx.O.v _ _ (by simp [Op.operands, Call.operands]) hX
    simp only [hX, evO, e_lenL] at he ⊢
    split at he
    · rename_i hr
      rw [hr] at rx
      generalize hvy : ev x = y' at rx
      cases rx
      simp only [Rs.ok.injEq] at he
      obtain ⟨rfl, rfl, rfl⟩ := he
      refine fin 0 rfl rfl rfl rfl ?_
      simp only [Builtin.len_, List.getElem?_toArray, List.getElem?_cons_zero, Sem.run_bind, run_underlying hP, Result.andThen_ok, hvy, Sem.run_pure]
    · rename_i hr
      rw [hr] at rx
      generalize hvy : ev x = y' at rx
      cases rx
      simp only [Rs.ok.injEq] at he
      obtain ⟨rfl, rfl, rfl⟩ := he
      refine fin _ rfl rfl rfl rfl ?_
      simp only [Builtin.len_, List.getElem?_toArray, List.getElem?_cons_zero, Sem.run_bind, run_underlying hP, Result.andThen_ok, hvy, Sem.run_pure]
    · rename_i hr
      rw [hr] at rx
      cases rx
    · cases he
  case map kt vt =>
    simp only at he ⊢
    cases hX : opd kd c x with
    | none => simp [hX, evO, e_no] at he
    | some X =>
    have rx := hx.O.v _ _ (by simp [Op.operands, Call.operands]) hX
    simp only [hX, evO, e_lenM] at he ⊢
    split at he
    · rename_i hr
      rw [hr] at rx
      generalize hvy : ev x = y' at rx
      cases rx
      simp only [Rs.ok.injEq] at he
      obtain ⟨rfl, rfl, rfl⟩ := he
      refine fin 0 rfl rfl rfl rfl ?_
      simp only [Builtin.len_, List.getElem?_toArray, List.getElem?_cons_zero, Sem.run_bind, run_underlying hP, Result.andThen_ok, hvy, Sem.run_pure]
      rfl
    · rename_i r hr
      rw [hr] at rx
      generalize hvy : ev x = y' at rx
      cases rx with | m hmu =>
      split at he
      · rename_i es hes
        simp only [Rs.ok.injEq] at he
        obtain ⟨rfl, rfl, rfl⟩ := he
        obtain ⟨c', β', N', hm, E, k, hE, hV⟩ := hx.H.blk _ _ hes
        rw [hmu] at hm
        cases hm
        have hlen : es.length = E.size := by
          have : ∀ {es : List (V × V)} {l : List MapEntry}, VPs μ es l → es.length = l.length := by
            intro es l hv
            induction hv with
            | nil => rfl
            | cons _ _ _ ih => simp [ih]
          simpa using this hV
        refine fin _ rfl rfl rfl rfl ?_
        simp only [Builtin.len_, List.getElem?_toArray, List.getElem?_cons_zero, Sem.run_bind, run_underlying hP, Result.andThen_ok, hvy, getObj_run hE, Sem.run_pure, hlen]
      · cases he
    · cases he
  case pointer a =>
    simp only at he ⊢
    cases ha : tUnd T a with
    | none => simp [ha, evO, e_no] at he
    | some da =>
    rw [ha] at he
    cases da <;> try (simp [evO, e_no] at he; done)
    simp only [evO, e_lenA, Rs.ok.injEq] at he ⊢
    obtain ⟨rfl, rfl, rfl⟩ := he
    refine fin _ rfl rfl rfl rfl ?_
    simp only [Builtin.len_, List.getElem?_toArray, List.getElem?_cons_zero, Sem.run_bind, run_underlying hP, run_underlying (tUnd_ok hx.T ha), Result.andThen_ok, Sem.run_pure]

theorem ok_cap (d : Option Nat) (args : Array Operand) (at_ : Array TypeId) (ty : Nat) (pos : String) (af : Array Edge) (g : Option (Nat × Bool)) : OpOK P T call ⟨d, .call ⟨.builtin .cap, args, at_⟩, ty, pos, af, g⟩ := by
  intro kd c μ κ vs ts ls h w w₀ ev v ls' h' hx he
  obtain ⟨args⟩ := args
  obtain ⟨at_⟩ := at_
  rcases args with _ | ⟨x, _ | ⟨y, r⟩⟩ <;> rcases at_ with _ | ⟨t, _ | ⟨u, r'⟩⟩ <;> try (simp [compO, callO, evO, e_no] at he; done)
  simp only [compO, callO] at he ⊢
  cases ht : tUnd T t with
  | none => simp [ht, evO, e_no] at he
  | some dt =>
  rw [ht] at he
  have hP := tUnd_ok hx.T ht
  have fin : ∀ {op : O} (n : Nat), boxed op = none → ls' = ls → h' = h → v = .i .i64 (.ofNat n) → (Builtin.cap_ #[t] ty #[ev x]).run P w = .ok (goInt n) w →
      Does P ⟨d, .call ⟨.builtin .cap, ⟨[x]⟩, ⟨[t]⟩⟩, ty, pos, af, g⟩ ev w (Res μ κ h w w₀ op none v ls' h') := by
    intro op n hb h1 h2 hv h3
    subst h1 h2 hv
    exact Does.pure hx (.i _ _) hb (run_builtin (s := Builtin.cap_ #[t] ty #[ev x]) (fun consts => by simp [builtin]) h3)
  cases dt <;> try (simp [evO, e_no] at he; done)
  case array n e =>
    simp only [evO, e_lenA, Rs.ok.injEq] at he ⊢
    obtain ⟨rfl, rfl, rfl⟩ := he
    refine fin _ rfl rfl rfl rfl ?_
    simp only [Builtin.cap_, List.getElem?_toArray, List.getElem?_cons_zero, Sem.run_bind, run_underlying hP, Result.andThen_ok, Sem.run_pure]
  case slice e =>
    simp only at he ⊢
    cases hX : opd kd c x with
    | none => simp [hX, evO, e_no] at he
    | some X =>
    have rx := hx.O.v _ _ (by simp [Op.operands, Call.operands]) hX
    simp only [hX, evO, e_capL] at he ⊢
    split at he
    · rename_i hr
      rw [hr] at rx
      generalize hvy : ev x = y' at rx
      cases rx
      simp only [Rs.ok.injEq] at he
      obtain ⟨rfl, rfl, rfl⟩ := he
      refine fin 0 rfl rfl rfl rfl ?_
      simp only [Builtin.cap_, List.getElem?_toArray, List.getElem?_cons_zero, Sem.run_bind, run_underlying hP, Result.andThen_ok, hvy, Sem.run_pure]
    · rename_i hr
      rw [hr] at rx
      generalize hvy : ev x = y' at rx
      cases rx with | sl hmu hn hc ha hN =>
      simp only [Rs.ok.injEq] at he
      obtain ⟨rfl, rfl, rfl⟩ := he
      refine fin _ rfl rfl rfl rfl ?_
      simp only [Builtin.cap_, List.getElem?_toArray, List.getElem?_cons_zero, Sem.run_bind, run_underlying hP, Result.andThen_ok, hvy, Sem.run_pure, hc _ rfl]
    · cases he
end Am
namespace Am
open Go
variable {P : Program} {T : TT} {call : CallT} {μ : Mp}

def ChkAt (P : Program) (T : TT) (em : Bool) (D t n : Nat) : Prop :=
  ∀ (w : World) (xs : List Value), xs.length = n → (Instr.checkKey em D t (packG (isG (tUnd T t)) xs)).run P w = .ok () w
theorem flat_chk (hT : TOk P T) (em : Bool) : ∀ (d t : Nat) (ks : List Ck), flat T d t = some ks → ∀ D, d ≤ D → ChkAt P T em D t ks.length := by
  intro d
  induction d with
  | zero => intro t ks h; simp [flat] at h
  | succ d ih =>
    intro t ks h D hD w xs hlx
    obtain ⟨D, rfl⟩ : ∃ e, D = e + 1 := ⟨D - 1, by omega⟩
    unfold flat at h
    have onePart : ∀ (e o : Nat) (kl : List Ck) (ti : TI), flat T d e = some kl → tInfo T e = some ti → ti.sz = kl.length → o + kl.length ≤ xs.length →
        ∃ a, (Go.part e xs.toArray o).run P w = .ok a w ∧ (Instr.checkKey em D e a).run P w = .ok () w := by
      intro e o kl ti hkl hti hsz hle
      have hg := tInfo_g hti
      refine ⟨_, run_part hT hti xs o (by omega) (fun h => by rw [hsz]; exact flat_one hkl (by rw [← hg]; exact h)) w, ?_⟩
      rw [hg]
      exact ih e kl hkl D (by omega) w _ (by simp; omega)
    cases hu : tUnd T t with
    | none => simp [hu] at h
    | some k =>
      have hP := tUnd_ok hT hu
      rw [hu] at h
      cases k <;> simp only [reduceCtorEq] at h
      case bool => unfold Instr.checkKey; simp [run_underlying hP]
      case int j => unfold Instr.checkKey; simp [run_underlying hP]
      case string => unfold Instr.checkKey; simp [run_underlying hP]
      case struct fs =>
        cases hsh : T.sh t with
        | false => rw [hsh] at h; simp at h
        | true =>
          rw [hsh] at h
          simp only [cond_true] at h
          simp only [packG, isG, if_true]
          rw [Instr.checkKey]
          simp only [Sem.run_bind, run_underlying hP, Result.andThen_ok]
          rw [← Array.forIn_toList]
          have key : ∀ (l : List Field) (o : Nat) (ks : List Ck), flatFs (flat T d) T l o = some ks → xs.length = o + ks.length →
              ((forIn l PUnit.unit fun f _ => if f.name ≠ "_" then do Instr.checkKey em D f.type (← Go.part f.type xs.toArray f.offset); pure (ForInStep.yield PUnit.unit) else pure (ForInStep.yield PUnit.unit) : Sem PUnit)).run P w = .ok PUnit.unit w := by
            intro l
            induction l with
            | nil => intro o ks h h1; simp
            | cons f l ihl =>
              intro o ks h h1
              simp only [flatFs] at h
              split at h
              · rename_i kf ti hkf hti
                cases hb : ((f.name != "_") && Nat.beq f.offset o && Nat.beq ti.sz kf.length) with
                | false => rw [hb] at h; simp at h
                | true =>
                  rw [hb] at h
                  simp only [Bool.and_eq_true, bne_iff_ne, ne_eq, Nat.beq_eq] at hb
                  obtain ⟨⟨hn, hoff⟩, hsz⟩ := hb
                  simp only [cond_true] at h
                  split at h
                  · rename_i kr hkr
                    cases h
                    simp only [List.length_append] at h1
                    obtain ⟨a, p1, p2⟩ := onePart f.type o kf ti hkf hti hsz (by omega)
                    simp only [List.forIn_cons, Sem.run_bind, hn, ne_eq, not_false_eq_true, if_true, Result.andThen_ok, hoff, p1, p2, Sem.run_pure]
                    exact ihl (o + kf.length) kr hkr (by omega)
                  · cases h
              · cases h
          rw [key fs.toList 0 ks h (by omega)]
          simp
      case array n e =>
        split at h
        · rename_i kl ti hkl hti
          cases hb : Nat.beq ti.sz kl.length with
          | false => rw [hb] at h; simp at h
          | true =>
            rw [hb] at h
            have hsz : ti.sz = kl.length := by simpa [Nat.beq_eq] using hb
            simp only [cond_true, Option.some.injEq] at h
            subst h
            simp only [packG, isG, if_true]
            rw [Instr.checkKey]
            simp only [Sem.run_bind, run_underlying hP, Result.andThen_ok]
            simp only [Std.Legacy.Range.forIn_eq_forIn_range', Std.Legacy.Range.size, Nat.sub_zero, Nat.add_one_sub_one, Nat.div_one]
            have hx0 : xs.length = n * kl.length := by rw [hlx]; simp
            have each : ∀ j ∈ List.range' 0 n, j < n := by intro j hj; simp at hj; exact hj
            generalize List.range' 0 n = is at each
            induction is with
            | nil => simp
            | cons j is ih2 =>
              have hj := each j (by simp)
              have : (j + 1) * kl.length ≤ n * kl.length := Nat.mul_le_mul_right _ (by omega)
              rw [Nat.succ_mul] at this
              obtain ⟨a, p1, p2⟩ := onePart e (j * kl.length) kl ti hkl hti hsz (by omega)
              simp only [List.forIn_cons, Sem.run_bind, run_sizeOf hT hti, Result.andThen_ok, hsz, p1, p2, Sem.run_pure]
              exact ih2 (fun y hy => each y (by simp [hy]))
        · cases h

/-- a key that is one of its type -/
theorem csEq_len : ∀ {ks : List Ck} {xs ys : List V} {r : Bool}, csEq ks xs ys = some r → xs.length = ks.length ∧ ys.length = ks.length := by
  intro ks
  induction ks with
  | nil => intro xs ys r h; cases xs <;> cases ys <;> simp [csEq] at h ⊢
  | cons k ks ih =>
    intro xs ys r h
    cases xs <;> cases ys <;> simp only [csEq, reduceCtorEq] at h
    rename_i x xs y ys
    split at h
    · split at h
      · rename_i e; have := ih e; simp; omega
      · cases h
    · cases h
theorem key_check (hT : TOk P T) {kt : Nat} {q : Q} (hq : keyQ T kt = some q) {k : V} {k' : Value} (hk : VRel μ k k') {r : Bool} (hr : qeq q k k = some r) (em : Bool) (w : World) :
    (Instr.checkKey em 10000 kt k').run P w = .ok () w := by
  unfold keyQ at hq
  cases hu : tUnd T kt with
  | none => simp [hu] at hq
  | some d =>
    have hP := tUnd_ok hT hu
    rw [hu] at hq
    have agg : ∀ ks, flat T 20 kt = some ks → q = .ag ks → isG (tUnd T kt) = true → (Instr.checkKey em 10000 kt k').run P w = .ok () w := by
      intro ks hks hqq hg
      subst hqq
      cases k <;> simp only [qeq, reduceCtorEq] at hr
      cases hk with | a hk ho =>
      have := flat_chk hT em 20 kt ks hks 10000 (by omega) w _ (by rw [← hk.length]; exact (csEq_len hr).1)
      rw [hg] at this
      simpa [packG] using this
    cases d <;> simp only [reduceCtorEq, Option.some.injEq] at hq
    case bool => rw [show (10000 : Nat) = 9999 + 1 from rfl]; unfold Instr.checkKey; simp [run_underlying hP]
    case int j => rw [show (10000 : Nat) = 9999 + 1 from rfl]; unfold Instr.checkKey; simp [run_underlying hP]
    case string => rw [show (10000 : Nat) = 9999 + 1 from rfl]; unfold Instr.checkKey; simp [run_underlying hP]
    case struct fs =>
      rw [Option.map_eq_some_iff] at hq
      obtain ⟨ks, hk, rfl⟩ := hq
      exact agg ks hk rfl (by rw [hu]; rfl)
    case array n e =>
      rw [Option.map_eq_some_iff] at hq
      obtain ⟨ks, hk, rfl⟩ := hq
      exact agg ks hk rfl (by rw [hu]; rfl)
theorem key_equal (hT : TOk P T) {kt : Nat} {q : Q} (hq : keyQ T kt = some q) {a b : V} {a' b' : Value} (ha : VRel μ a a') (hb : VRel μ b b') {r : Bool} (hr : qeq q a b = some r) (w : World) :
    (Op.equal kt a' b').run P w = .ok r w := by
  unfold keyQ at hq
  cases hu : tUnd T kt with
  | none => simp [hu] at hq
  | some d =>
    have hP := tUnd_ok hT hu
    rw [hu] at hq
    have agg : ∀ ks, flat T 20 kt = some ks → q = .ag ks → isG (tUnd T kt) = true → (Op.equal kt a' b').run P w = .ok r w := by
      intro ks hks hqq hg
      subst hqq
      cases a <;> simp only [qeq, reduceCtorEq] at hr
      cases b <;> simp only [reduceCtorEq] at hr
      cases ha with | a ha oa =>
      cases hb with | a hb ob =>
      exact run_equal_flat hT hks ha hb oa ob hr hg w
    cases d <;> simp only [reduceCtorEq, Option.some.injEq] at hq
    case bool => subst hq; exact ceq_ok hT (k := .b) (by cases a <;> simpa [qeq] using hr) ha hb (t := kt) (d := 9999) hu w
    case int j => subst hq; exact ceq_ok hT (k := .i) (by cases a <;> simpa [qeq] using hr) ha hb (t := kt) (d := 9999) ⟨j, hu⟩ w
    case string => subst hq; exact ceq_ok hT (k := .s) (by cases a <;> simpa [qeq] using hr) ha hb (t := kt) (d := 9999) hu w
    case struct fs =>
      rw [Option.map_eq_some_iff] at hq
      obtain ⟨ks, hk, rfl⟩ := hq
      exact agg ks hk rfl (by rw [hu]; rfl)
    case array n e =>
      rw [Option.map_eq_some_iff] at hq
      obtain ⟨ks, hk, rfl⟩ := hq
      exact agg ks hk rfl (by rw [hu]; rfl)
theorem ceq_bits {k : Ck} {x y : V} {x' y' : Value} (hx : VRel μ x x') (hy : VRel μ y y') (h : ceq k x y = some true) (n : Nat) : Instr.sameBits n x' y' = true := by
  cases k with
  | b =>
    cases x <;> simp [ceq] at h
    cases y <;> simp at h
    cases hx; cases hy
    rename_i a b
    cases a <;> cases b <;> simp [beqB] at h <;> cases n <;> simp [Instr.sameBits]
  | i =>
    cases x <;> simp [ceq] at h
    cases y <;> simp at h
    cases hx; cases hy
    rename_i k a k' b
    rw [keq_eq] at h
    by_cases e : k = k'
    · subst e
      simp [ieq_eq] at h
      subst h
      cases n <;> simp [Instr.sameBits]
    · simp [e] at h
  | s =>
    cases x <;> simp [ceq] at h
    cases y <;> simp at h
    cases hx with | s l a ha =>
    cases hy with | s l' b hb =>
    rw [← ha, ← hb, seq_eq] at h
    have : a = b := by
      have h' : a.data.toList = b.data.toList := by simpa using h
      cases a; cases b
      simp at h'
      simp [h']
    subst this
    have he : (a == a) = true := by show (a.data == a.data) = true; simp
    cases n <;> simpa [Instr.sameBits] using he
theorem key_bits {q : Q} {kt : Nat} (hq : keyQ T kt = some q) {x y : V} {x' y' : Value} (hx : VRel μ x x') (hy : VRel μ y y') (h : qeq q x y = some true) : Instr.sameBits 10000 x' y' = true := by
  have sc : ∀ k, ceq k x y = some true → Instr.sameBits 10000 x' y' = true := fun k h => ceq_bits hx hy h _
  have agg : ∀ ks, q = .ag ks → Instr.sameBits 10000 x' y' = true := by
    intro ks hqq
    subst hqq
    cases x <;> simp only [qeq, reduceCtorEq] at h
    cases y <;> simp only [reduceCtorEq] at h
    rename_i xs ys
    cases hx with | a hx ox =>
    cases hy with | a hy oy =>
    rename_i xs' ys'
    have hl : xs'.toList.length = ys'.toList.length := by rw [← hx.length, ← hy.length, (csEq_len h).1, (csEq_len h).2]
    have key : ∀ (ks : List Ck) (xs ys : List V) (xs' ys' : List Value), VRs μ xs xs' → VRs μ ys ys' → csEq ks xs ys = some true → ((xs'.zip ys').all fun (x, y) => Instr.sameBits 9999 x y) = true := by
      intro ks
      induction ks with
      | nil => intro xs ys xs' ys' h1 h2 h3; cases xs <;> cases ys <;> simp [csEq] at h3; cases h1; simp
      | cons k ks ih =>
        intro xs ys xs' ys' h1 h2 h3
        cases xs <;> cases ys <;> simp only [csEq, reduceCtorEq] at h3
        cases h1 with | cons h1 h1' =>
        cases h2 with | cons h2 h2' =>
        split at h3
        · rename_i r hr
          split at h3
          · rename_i r' hr'
            simp at h3
            obtain ⟨rfl, rfl⟩ := h3
            simp only [List.zip_cons_cons, List.all_cons, Bool.and_eq_true]
            exact ⟨ceq_bits h1 h2 hr _, ih _ _ _ _ h1' h2' hr'⟩
          · cases h3
        · cases h3
    rw [show (10000 : Nat) = 9999 + 1 from rfl]
    simp only [Instr.sameBits, Bool.and_eq_true, beq_iff_eq]
    exact ⟨by simpa using hl, key ks xs ys _ _ hx hy h⟩
  unfold keyQ at hq
  cases hu : tUnd T kt with
  | none => simp [hu] at hq
  | some d =>
    rw [hu] at hq
    cases d <;> simp only [reduceCtorEq, Option.some.injEq] at hq
    case bool => subst hq; exact sc .b (by cases x <;> simpa [qeq] using h)
    case int j => subst hq; exact sc .i (by cases x <;> simpa [qeq] using h)
    case string => subst hq; exact sc .s (by cases x <;> simpa [qeq] using h)
    case struct fs =>
      rw [Option.map_eq_some_iff] at hq
      obtain ⟨ks, hk, rfl⟩ := hq
      exact agg ks rfl
    case array n e =>
      rw [Option.map_eq_some_iff] at hq
      obtain ⟨ks, hk, rfl⟩ := hq
      exact agg ks rfl
theorem ceq_symm {k : Ck} {x y : V} (h : ceq k x y = some true) : ceq k y x = some true := by
  cases k with
  | i =>
    cases x <;> simp [ceq] at h
    cases y <;> simp at h
    rename_i k a k' b
    rw [keq_eq] at h
    by_cases e : k = k'
    · subst e
      simp [ieq_eq] at h
      subst h
      simp [ceq, keq_eq, ieq_eq]
    · simp [e] at h
  | b =>
    cases x <;> simp [ceq] at h
    cases y <;> simp at h
    rename_i a b
    cases a <;> cases b <;> simp [beqB] at h <;> rfl
  | s =>
    cases x <;> simp [ceq] at h
    cases y <;> simp at h
    rename_i a b
    rw [seq_self] at h
    have : a = b := by simpa using h
    subst this
    simp [ceq, seq_self]
theorem csEq_symm : ∀ {ks : List Ck} {xs ys : List V}, csEq ks xs ys = some true → csEq ks ys xs = some true := by
  intro ks
  induction ks with
  | nil => intro xs ys h; cases xs <;> cases ys <;> simp [csEq] at h ⊢
  | cons k ks ih =>
    intro xs ys h
    cases xs <;> cases ys <;> simp only [csEq, reduceCtorEq] at h
    split at h
    · rename_i r hr
      split at h
      · rename_i r' hr'
        simp at h
        obtain ⟨rfl, rfl⟩ := h
        simp [csEq, ceq_symm hr, ih hr']
      · cases h
    · cases h
theorem key_symm {q : Q} {kt : Nat} (hq : keyQ T kt = some q) {x y : V} (h : qeq q x y = some true) : qeq q y x = some true := by
  unfold keyQ at hq
  cases hu : tUnd T kt with
  | none => simp [hu] at hq
  | some d =>
    rw [hu] at hq
    cases d <;> simp only [reduceCtorEq, Option.some.injEq] at hq
    case bool =>
      subst hq
      have h' : ceq .b x y = some true := by cases x <;> simpa [qeq] using h
      have := ceq_symm h'
      cases y <;> simpa [qeq] using this
    case int j =>
      subst hq
      have h' : ceq .i x y = some true := by cases x <;> simpa [qeq] using h
      have := ceq_symm h'
      cases y <;> simpa [qeq] using this
    case string =>
      subst hq
      have h' : ceq .s x y = some true := by cases x <;> simpa [qeq] using h
      have := ceq_symm h'
      cases y <;> simpa [qeq] using this
    all_goals
      rw [Option.map_eq_some_iff] at hq
      obtain ⟨ks, hk, rfl⟩ := hq
      cases x <;> simp only [qeq, reduceCtorEq] at h
      cases y <;> simp only [reduceCtorEq] at h
      exact csEq_symm h
theorem sameNow_ok {kt : Nat} {d : TypeDesc} (hP : P.underlying kt = some d) {x y : Value} {r : Bool} (h : Instr.sameNow d x y = some r) (w : World) : (Op.equal kt x y).run P w = .ok r w := by
  cases d <;> cases x <;> simp only [Instr.sameNow, reduceCtorEq] at h <;> cases y <;> simp only [reduceCtorEq] at h
  · cases h
    exact run_equalIn_bool' w 9999 kt _ _ hP
  · split at h
    · rename_i e
      cases h
      subst e
      exact run_equalIn_int w 9999 kt _ _ _ _ hP
    · cases h
  · rename_i a b
    cases h
    have := run_equalIn_string w 9999 kt a b hP
    rw [← beq_toListBytes] at this
    exact this
theorem findKey_asking {kt : Nat} {d : TypeDesc} (hP : P.underlying kt = some d) (x : Value) (E : List MapEntry) (w : World) {r : Option (Nat × Value)} (h : (Instr.findAsking kt x E).run P w = .ok r w) :
    (Instr.findKey kt x E).run P w = .ok r w := by
  have key : ∀ (E : List MapEntry) (i : Nat) (r' : Option (Nat × Value)), Instr.findNow d x E i = some r' → (Instr.findAsking kt x E i).run P w = .ok r' w := by
    intro E
    induction E with
    | nil => intro i r' h; simp [Instr.findNow] at h; subst h; simp [Instr.findAsking]
    | cons e E ih =>
      intro i r' h
      simp only [Instr.findNow] at h
      split at h
      · rename_i hs
        cases h
        simp [Instr.findAsking, sameNow_ok hP hs]
      · rename_i hs
        simp only [Instr.findAsking, Sem.run_bind, sameNow_ok hP hs, Result.andThen_ok, Bool.false_eq_true, if_false]
        exact ih _ _ h
      · cases h
  simp only [Instr.findKey, Sem.run_bind, run_underlying hP, Result.andThen_ok]
  cases hn : Instr.findNow d x E 0 with
  | none => simpa using h
  | some r' =>
    have := key E 0 r' hn
    rw [h] at this
    cases this
    simp
/-- the entry of a key -/
theorem find_ok (hT : TOk P T) {kt : Nat} {q : Q} (hq : keyQ T kt = some q) {k : V} {k' : Value} (hk : VRel μ k k') (w : World) :
    ∀ {es : List (V × V)} {E : List MapEntry} {res : Option V}, VPs μ es E → mfind q k es = some res →
      (res = none ∧ (∀ i, (Instr.findAsking kt k' E i).run P w = .ok none w) ∧ (∀ v v' n, VRel μ v v' → VPs μ (mput q k v es) (E ++ [⟨k', v', n⟩])) ∧ mdrop q k es = es) ∨
      ∃ v j e, res = some v ∧ (∀ i, (Instr.findAsking kt k' E i).run P w = .ok (some (i + j, e.val)) w) ∧ E[j]? = some e ∧ VRel μ v e.val ∧ Instr.sameBits 10000 e.key k' = true ∧
        (∀ v v', VRel μ v v' → VPs μ (mput q k v es) (E.modify j fun e => { e with key := k', val := v' })) ∧ VPs μ (mdrop q k es) (E.eraseIdx j) := by
  intro es E res hV
  induction hV with
  | nil =>
    intro h
    simp [mfind] at h
    subst h
    refine .inl ⟨rfl, fun i => by simp [Instr.findAsking], fun v v' n hv => ?_, rfl⟩
    simp only [mput, List.nil_append]
    exact .cons hk hv .nil
  | cons hkk hvv hV' ih =>
    rename_i a x e es E
    intro h
    simp only [mfind] at h
    split at h
    · rename_i hqe
      simp at h
      subst h
      refine .inr ⟨_, 0, e, rfl, fun i => ?_, rfl, hvv, key_bits hq hkk hk (key_symm hq hqe), fun v v' hv => ?_, ?_⟩
      · simp [Instr.findAsking, key_equal hT hq hk hkk hqe]
      · simp only [mput, hqe, List.modify_zero_cons]
        exact .cons hk hv hV'
      · simp only [mdrop, hqe, List.eraseIdx_cons_zero]
        exact hV'
    · rename_i hqe
      have hask : ∀ i, (Instr.findAsking kt k' (e :: E) i).run P w = (Instr.findAsking kt k' E (i + 1)).run P w := fun i => by
        simp [Instr.findAsking, key_equal hT hq hk hkk hqe]
      rcases ih h with ⟨h1, h2, h3, h4⟩ | ⟨v, j, e', h1, h2, h3, h4, h5, h6, h7⟩
      · refine .inl ⟨h1, fun i => by rw [hask, h2], fun v v' n hv => ?_, ?_⟩
        · simp only [mput, hqe, List.cons_append]
          exact .cons hkk hvv (h3 v v' n hv)
        · simp only [mdrop, hqe, h4]
      · refine .inr ⟨v, j + 1, e', h1, fun i => by rw [hask, h2, show i + 1 + j = i + (j + 1) by omega], by simpa using h3, h4, h5, fun v v' hv => ?_, ?_⟩
        · simp only [mput, hqe, List.modify_succ_cons]
          exact .cons hkk hvv (h6 v v' hv)
        · simp only [mdrop, hqe, List.eraseIdx_cons_succ]
          exact .cons hkk hvv h7
    · cases h
end Am
namespace Am
open Go
variable {P : Program} {T : TT} {call : CallT} {μ : Mp}
theorem isKey_ok {q : Q} {k : V} (h : (!isKey q k) = false) : ∃ r, qeq q k k = some r := by
  unfold isKey at h
  cases hq : qeq q k k with
  | none => rw [hq] at h; cases h
  | some r => exact ⟨r, rfl⟩
theorem getMap {h : H} {w : World} (hH : HRel μ h w) {r c β N : Nat} {es : List (V × V)} (hmu : μ r = some (c, β, N)) (hg : h.get r = some (.map es)) : ∃ E k, w.heap[c]? = some (.map E k) ∧ VPs μ es E.toList := by
  obtain ⟨c', β', N', hm, E, k, hE, hV⟩ := hH.blk _ _ hg
  rw [hmu] at hm
  cases hm
  exact ⟨E, k, hE, hV⟩
def setB (w : World) (b : Nat) (o : Obj) : World := { w with heap := w.heap.setIfInBounds b o }
theorem run_setMap {w : World} {r : Nat} {es : Array MapEntry} {clock : Nat} (o : Obj) (hb : w.heap[r]? = some (.map es clock)) : (setObj r o).run P w = .ok () (setB w r o) := by
  simp [setObj, Sem.run, hb, setB]
theorem setB_only (w : World) (b : Nat) (o : Obj) : Only w (setB w b o) b :=
  ⟨fun d hd => by simp [setB, Ne.symm hd], by simp [setB], rfl, rfl, rfl⟩
theorem setB_self {w : World} {b : Nat} {o o' : Obj} (h : w.heap[b]? = some o') : (setB w b o).heap[b]? = some o := by
  have := (Array.getElem?_eq_some_iff.1 h).1
  simp [setB, this]

theorem ok_lookup (d : Option Nat) (t : Nat) (x k : Operand) (ok : Bool) (ty : Nat) (pos : String) (af : Array Edge) (g : Option (Nat × Bool)) : OpOK P T call ⟨d, .lookup t x k ok, ty, pos, af, g⟩ := by
  intro kd c μ κ vs ts ls h w w₀ ev v ls' h' hx he
  simp only [compO] at he ⊢
  cases ht : tUnd T t with
  | none => simp [ht, evO, e_no] at he
  | some dt =>
  rw [ht] at he
  cases dt <;> try (simp [evO, e_no] at he; done)
  rename_i kt e
  have hP := tUnd_ok hx.T ht
  simp only at he ⊢
  cases hq : keyQ T kt with
  | none => simp [hq, evO, e_no] at he
  | some q =>
  cases hi : tInfo T e with
  | none => simp [hq, hi, evO, e_no] at he
  | some te =>
  cases hX : opd kd c x with
  | none => simp [hq, hi, hX, evO, e_no] at he
  | some X =>
  cases hK : opd kd c k with
  | none => simp [hq, hi, hX, hK, evO, e_no] at he
  | some K =>
  simp only [hq, hi, hX, hK, evO, e_look] at he ⊢
  have rx := hx.O.v _ _ (by simp [Op.operands]) hX
  have rk := hx.O.v _ _ (by simp [Op.operands]) hK
  cases hik : (!isKey q (getX vs ts K)) with
  | true => rw [hik] at he; simp at he
  | false =>
  rw [hik] at he
  simp only [cond_false] at he
  obtain ⟨r0, hr0⟩ := isKey_ok hik
  have hck := fun em => key_check (P := P) hx.T hq rk hr0 em w
  have hkt : ∃ dk, P.underlying kt = some dk := by
    unfold keyQ at hq
    cases hu : tUnd T kt with
    | none => simp [hu] at hq
    | some dk => exact ⟨dk, tUnd_ok hx.T hu⟩
  obtain ⟨dk, hPk⟩ := hkt
  obtain ⟨z, hz, hzv, _⟩ := run_zeroValue (P := P) hx.T hi w
  have miss : ∀ (E : Array MapEntry), (∀ _em : Bool, (Instr.findKey kt (ev k) E.toList).run P w = .ok none w) → (ev x = .map none ∧ E = #[] ∨ ∃ c n, ev x = .map (some c) ∧ w.heap[c]? = some (.map E n)) →
      v = (bif ok then .t [te.zero, .b false] else te.zero) → ls' = ls → h' = h → Does P ⟨d, .lookup t x k ok, ty, pos, af, g⟩ ev w (Res μ κ h w w₀ (.look q X K ok te.zero) none v ls' h') := by
    intro E hf hes hv h1 h2
    subst hv h1 h2
    have hy : ∃ y, VRel μ (bif ok then .t [te.zero, .b false] else te.zero) y ∧ (Instr.lookup t (ev x) (ev k) ok).run P w = .ok y w := by
      cases ok with
      | true =>
        refine ⟨.tuple #[z, .bool false], .t (.cons (hzv μ) (.cons (.b _) .nil)), ?_⟩
        rcases hes with ⟨h1, rfl⟩ | ⟨c, n, h1, h2⟩
        · have := hf true
          simp at this
          simp [Instr.lookup, run_underlying hP, h1, hck, this, hz]
        · simp [Instr.lookup, run_underlying hP, h1, getObj_run h2, hck, hf true, hz]
      | false =>
        refine ⟨z, hzv μ, ?_⟩
        rcases hes with ⟨h1, rfl⟩ | ⟨c, n, h1, h2⟩
        · have := hf true
          simp at this
          simp [Instr.lookup, run_underlying hP, h1, hck, this, hz]
        · simp [Instr.lookup, run_underlying hP, h1, getObj_run h2, hck, hf true, hz]
    obtain ⟨y, hy1, hy2⟩ := hy
    exact Does.pure hx hy1 rfl (by simp [execOp, hy2])
  split at he
  · rename_i hr
    rw [hr] at rx
    generalize hvy : ev x = y' at rx
    cases rx
    simp only [Rs.ok.injEq] at he
    obtain ⟨rfl, rfl, rfl⟩ := he
    exact miss #[] (fun _ => findKey_asking hPk _ _ _ (by simp [Instr.findAsking])) (.inl ⟨hvy, rfl⟩) rfl rfl rfl
  · rename_i r hr
    rw [hr] at rx
    generalize hvy : ev x = y' at rx
    cases rx with | m hmu =>
    split at he
    · rename_i es hes
      obtain ⟨E, n, hE, hV⟩ := getMap hx.H hmu hes
      split at he
      · rename_i hmf
        simp only [Rs.ok.injEq] at he
        obtain ⟨rfl, rfl, rfl⟩ := he
        rcases find_ok hx.T hq rk w hV hmf with ⟨_, h2, _⟩ | ⟨_, _, _, h1, _⟩
        · exact miss E (fun _ => findKey_asking hPk _ _ _ (h2 0)) (.inr ⟨_, n, hvy, hE⟩) rfl rfl rfl
        · cases h1
      · rename_i v0 hmf
        simp only [Rs.ok.injEq] at he
        obtain ⟨rfl, rfl, rfl⟩ := he
        rcases find_ok hx.T hq rk w hV hmf with ⟨h1, _⟩ | ⟨v1, j, e', h1, h2, h3, h4, _⟩
        · cases h1
        · cases h1
          have hf := findKey_asking hPk _ _ _ (h2 0)
          cases ok with
          | true =>
            refine Does.pure hx (y := .tuple #[e'.val, .bool true]) (.t (.cons h4 (.cons (.b _) .nil))) rfl ?_
            simp [execOp, Instr.lookup, run_underlying hP, hvy, getObj_run hE, hck, hf]
          | false =>
            refine Does.pure hx (y := e'.val) h4 rfl ?_
            simp [execOp, Instr.lookup, run_underlying hP, hvy, getObj_run hE, hck, hf]
      · cases he
    · cases he
  · cases he
theorem Does.setMap {kd : List Kd} {c : Ctx} {κ : Lm} {vs ts : List V} {ls : Ls} {h : H} {w : World} {w₀ : Nat} {ev : Operand → Value} {xs : Operand → Prop} {o : Oper} {op : O} (hx : Cx P T kd c μ κ vs ts ls h w w₀ ev xs)
    {r cc β N n n' : Nat} {es es' : List (V × V)} {E E' : Array MapEntry} (hmu : μ r = some (cc, β, N)) (hg : h.get r = some (.map es)) (hE : w.heap[cc]? = some (.map E n)) (hV : VPs μ es' E'.toList) (hb : boxed op = none) {y : Value} (hy : VRel μ undef y)
    (hr : (execOp ev o).run P w = .ok (.value y) (setB w cc (.map E' n')) ∨ ((execOp ev o).run P w = .ok .skip (setB w cc (.map E' n')) ∧ y = Go.undef)) :
    Does P o ev w (Res μ κ h w w₀ op none undef ls (h.set r (some (.map es')))) :=
  Does.heap hx (hx.H.put hg hmu (setB_only w cc _) (x' := .map es') ⟨E', n', setB_self hE, hV⟩) (Fr.put hg hmu (setB_only w cc _)) hy hb hr

theorem ok_mapUpdate (d : Option Nat) (t : Nat) (x k z : Operand) (ty : Nat) (pos : String) (af : Array Edge) (g : Option (Nat × Bool)) : OpOK P T call ⟨d, .mapUpdate t x k z, ty, pos, af, g⟩ := by
  intro kd c μ κ vs ts ls h w w₀ ev v ls' h' hx he
  simp only [compO] at he ⊢
  cases ht : tUnd T t with
  | none => simp [ht, evO, e_no] at he
  | some dt =>
  rw [ht] at he
  cases dt <;> try (simp [evO, e_no] at he; done)
  rename_i kt e
  have hP := tUnd_ok hx.T ht
  simp only at he ⊢
  cases hq : keyQ T kt with
  | none => simp [hq, evO, e_no] at he
  | some q =>
  cases hX : opd kd c x with
  | none => simp [hq, hX, evO, e_no] at he
  | some X =>
  cases hK : opd kd c k with
  | none => simp [hq, hX, hK, evO, e_no] at he
  | some K =>
  cases hZ : opd kd c z with
  | none => simp [hq, hX, hK, hZ, evO, e_no] at he
  | some Z =>
  simp only [hq, hX, hK, hZ, evO, e_mup] at he ⊢
  have rx := hx.O.v _ _ (by simp [Op.operands]) hX
  have rk := hx.O.v _ _ (by simp [Op.operands]) hK
  have rz := hx.O.v _ _ (by simp [Op.operands]) hZ
  cases hik : (!isKey q (getX vs ts K)) with
  | true => rw [hik] at he; simp at he
  | false =>
  rw [hik] at he
  simp only [cond_false] at he
  obtain ⟨r0, hr0⟩ := isKey_ok hik
  have hck := fun em => key_check (P := P) hx.T hq rk hr0 em w
  have hkt : ∃ dk, P.underlying kt = some dk := by
    unfold keyQ at hq
    cases hu : tUnd T kt with
    | none => simp [hu] at hq
    | some dk => exact ⟨dk, tUnd_ok hx.T hu⟩
  obtain ⟨dk, hPk⟩ := hkt
  split at he
  · rename_i r hr
    rw [hr] at rx
    generalize hvy : ev x = y' at rx
    cases rx with | m hmu =>
    split at he
    · rename_i es hes
      obtain ⟨E, n, hE, hV⟩ := getMap hx.H hmu hes
      split at he
      · rename_i res hmf
        simp only [Rs.ok.injEq] at he
        obtain ⟨rfl, rfl, rfl⟩ := he
        rcases find_ok hx.T hq rk w hV hmf with ⟨_, h2, h3, _⟩ | ⟨v1, j, e', _, h2, h3, _, h5, h6, _⟩
        · have hf := findKey_asking hPk _ _ _ (h2 0)
          refine Does.setMap hx hmu hes hE (n' := n + 1) (E' := E.push { key := ev k, val := ev z, born := n }) (by simpa using h3 _ _ n rz) rfl (VRel.undef μ) (.inr ⟨?_, rfl⟩)
          simp [execOp, Instr.mapUpdate, run_underlying hP, hvy, getObj_run hE, hck, hf, run_setMap _ hE]
        · have hf := findKey_asking hPk _ _ _ (h2 0)
          simp only [Nat.zero_add] at hf
          have hkk : (Instr.keyThatStays (((E[j]?).map (·.key)).getD (ev k)) (ev k)).run P w = .ok (ev k) w := by
            have : E[j]? = some e' := by simpa using h3
            simp [Instr.keyThatStays, this, h5]
          refine Does.setMap hx hmu hes hE (n' := n) (E' := E.modify j fun e => { e with key := ev k, val := ev z }) (by simpa using h6 _ _ rz) rfl (VRel.undef μ) (.inr ⟨?_, rfl⟩)
          simp only [execOp, Instr.mapUpdate, Sem.run_bind, run_underlying hP, hvy, getObj_run hE, hck, hf, hkk, run_setMap _ hE, Result.andThen_ok, Sem.run_pure]
      · cases he
    · cases he
  · cases he

theorem ok_makeMap (d : Option Nat) (t : Nat) (r : Option Operand) (ty : Nat) (pos : String) (af : Array Edge) (g : Option (Nat × Bool)) : OpOK P T call ⟨d, .makeMap t r, ty, pos, af, g⟩ := by
  intro kd c μ κ vs ts ls h w w₀ ev v ls' h' hx he
  simp only [compO] at he ⊢
  cases ht : tUnd T t with
  | none => simp [ht, evO, e_no] at he
  | some dt =>
  rw [ht] at he
  cases dt <;> try (simp [evO, e_no] at he; done)
  rename_i kt e
  have hP := tUnd_ok hx.T ht
  have fin : evO call vs ts ls h .mkm = .ok v ls' h' → (Instr.makeMap t (r.map ev)).run P w = .ok (.map (some w.heap.size)) (w.alloc (.map #[] 0)) → Does P ⟨d, .makeMap t r, ty, pos, af, g⟩ ev w (Res μ κ h w w₀ .mkm none v ls' h') := by
    intro he hr
    simp only [evO, e_mkm, Rs.ok.injEq] at he
    obtain ⟨rfl, rfl, rfl⟩ := he
    have gr := Grew.alloc w (.map #[] 0)
    refine Does.heap hx (hx.H.new gr (.map []) 0 ⟨#[], 0, gr.new, .nil⟩) (Fr.new hx.H gr _ _) (.m (upd_self _ _)) rfl (.inl ?_)
    simp [execOp, hr]
  cases r with
  | none =>
    simp only at he ⊢
    exact fin he (by simp [Instr.makeMap, run_newObj])
  | some x =>
    cases x with
    | const cv =>
      cases cv <;> try (simp [evO, e_no] at he; done)
      rename_i k n
      simp only at he ⊢
      have rx := hx.O.v (.const (.int k n)) (.c (.i k n)) (by simp [Op.operands]) (by simp [opd, ofVal])
      simp only [getX] at rx
      generalize hvy : ev (.const (.int k n)) = y' at rx
      cases rx
      exact fin he (by simp [Instr.makeMap, run_underlying hP, run_newObj, hvy, asInt, run_asIntOf])
    | _ => simp [evO, e_no] at he
theorem ok_delete (d : Option Nat) (args : Array Operand) (at_ : Array TypeId) (ty : Nat) (pos : String) (af : Array Edge) (g : Option (Nat × Bool)) : OpOK P T call ⟨d, .call ⟨.builtin .delete, args, at_⟩, ty, pos, af, g⟩ := by
  intro kd c μ κ vs ts ls h w w₀ ev v ls' h' hx he
  obtain ⟨args⟩ := args
  obtain ⟨at_⟩ := at_
  rcases args with _ | ⟨x, _ | ⟨k, _ | ⟨z, r⟩⟩⟩ <;> rcases at_ with _ | ⟨t, _ | ⟨u, _ | ⟨q, r'⟩⟩⟩ <;> try (simp [compO, callO, evO, e_no] at he; done)
  simp only [compO, callO] at he ⊢
  cases ht : tUnd T t with
  | none => simp [ht, evO, e_no] at he
  | some dt =>
  rw [ht] at he
  cases dt <;> try (simp [evO, e_no] at he; done)
  rename_i kt e
  have hP := tUnd_ok hx.T ht
  simp only at he ⊢
  cases hq : keyQ T kt with
  | none => simp [hq, evO, e_no] at he
  | some q =>
  cases hX : opd kd c x with
  | none => simp [hq, hX, evO, e_no] at he
  | some X =>
  cases hK : opd kd c k with
  | none => simp [hq, hX, hK, evO, e_no] at he
  | some K =>
  simp only [hq, hX, hK, evO, e_mdel] at he ⊢
  have rx := hx.O.v _ _ (by simp [Op.operands, Call.operands]) hX
  have rk := hx.O.v _ _ (by simp [Op.operands, Call.operands]) hK
  cases hik : (!isKey q (getX vs ts K)) with
  | true => rw [hik] at he; simp at he
  | false =>
  rw [hik] at he
  simp only [cond_false] at he
  obtain ⟨r0, hr0⟩ := isKey_ok hik
  have hck := fun em => key_check (P := P) hx.T hq rk hr0 em w
  have hkt : ∃ dk, P.underlying kt = some dk := by
    unfold keyQ at hq
    cases hu : tUnd T kt with
    | none => simp [hu] at hq
    | some dk => exact ⟨dk, tUnd_ok hx.T hu⟩
  obtain ⟨dk, hPk⟩ := hkt
  have hb : ∀ {w' : World}, (Builtin.delete_ #[t, u] ty #[ev x, ev k]).run P w = .ok (.tuple #[]) w' → (execOp ev ⟨d, .call ⟨.builtin .delete, ⟨[x, k]⟩, ⟨[t, u]⟩⟩, ty, pos, af, g⟩).run P w = .ok (.value (.tuple #[])) w' :=
    fun h => run_builtin (s := Builtin.delete_ #[t, u] ty #[ev x, ev k]) (fun consts => by simp [builtin]) h
  split at he
  · rename_i hr
    rw [hr] at rx
    generalize hvy : ev x = y' at rx
    cases rx
    simp only [Rs.ok.injEq] at he
    obtain ⟨rfl, rfl, rfl⟩ := he
    exact Does.pure hx (y := .tuple #[]) (.t .nil) rfl (hb (by simp [Builtin.delete_, run_underlying hP, hvy, hck]))
  · rename_i r hr
    rw [hr] at rx
    generalize hvy : ev x = y' at rx
    cases rx with | m hmu =>
    split at he
    · rename_i es hes
      obtain ⟨E, n, hE, hV⟩ := getMap hx.H hmu hes
      split at he
      · rename_i res hmf
        simp only [Rs.ok.injEq] at he
        obtain ⟨rfl, rfl, rfl⟩ := he
        rcases find_ok hx.T hq rk w hV hmf with ⟨_, h2, _, h4⟩ | ⟨v1, j, e', _, h2, h3, _, _, _, h7⟩
        · have hf := findKey_asking hPk _ _ _ (h2 0)
          rw [h4]
          refine Does.setMap hx hmu hes hE (n' := n) (E' := E) (y := .tuple #[]) hV rfl (.t .nil) (.inl (hb ?_))
          simp [Builtin.delete_, run_underlying hP, hvy, getObj_run hE, hck, hf, run_setMap _ hE]
        · have hf := findKey_asking hPk _ _ _ (h2 0)
          simp only [Nat.zero_add] at hf
          have hj : j < E.size := by have := (List.getElem?_eq_some_iff.1 h3).1; simpa using this
          refine Does.setMap hx hmu hes hE (n' := n) (E' := E.eraseIdxIfInBounds j) (y := .tuple #[]) (by unfold Array.eraseIdxIfInBounds; rw [dif_pos hj]; simpa using h7) rfl (.t .nil) (.inl (hb ?_))
          simp [Builtin.delete_, run_underlying hP, hvy, getObj_run hE, hck, hf, run_setMap _ hE]
      · cases he
    · cases he
  · cases he
end Am
namespace Am
open Go
variable {P : Program} {T : TT} {call : CallT} {μ : Mp}
theorem getXs_eq (vs ts : List V) (l : List X) : getXs vs ts l = l.map (getX vs ts) := by
  induction l with
  | nil => rfl
  | cons a l ih => simp [getXs, ih]
theorem minMax_ok (mx : Bool) (w : World) : ∀ {r : List V} {x v : V} {r' : List Value} {x' : Value}, VRel μ x x' → VRs μ r r' → r ≠ [] → minMax mx x r = some v →
    ∃ y, ((r'.foldlM (if mx then Builtin.max2 else Builtin.min2) x').run P w = .ok y w) ∧ VRel μ v y := by
  have go : ∀ {r : List V} {k : IntKind} {a : Int} {v : V} {r' : List Value}, VRs μ r r' → minMax mx (.i k a) r = some v →
    ∃ y, ((r'.foldlM (if mx then Builtin.max2 else Builtin.min2) (.int k a)).run P w = .ok y w) ∧ VRel μ v y := by
    intro r
    induction r with
    | nil =>
      intro k a v r' hr e
      cases hr
      simp [minMax] at e
      subst e
      exact ⟨_, by simp, .i _ _⟩
    | cons b r ih =>
      intro k a v r' hr e
      cases hr with | cons hb hr =>
      cases b <;> simp only [minMax, reduceCtorEq] at e
      rename_i k' b
      cases hb
      rw [keq_eq] at e
      by_cases hk : k = k'
      · subst hk
        simp only [decide_true, cond_true] at e
        obtain ⟨y, h1, h2⟩ := ih hr e
        refine ⟨y, ?_, h2⟩
        rw [List.foldlM_cons, Sem.run_bind]
        have : ((if mx then Builtin.max2 else Builtin.min2) (.int k a) (.int k b)).run P w = .ok (.int k (bif (bif mx then ilt a b else ilt b a) then b else a)) w := by
          cases mx
          · simp only [Bool.false_eq_true, if_false, Builtin.min2, Sem.run_pure, cond_false, ilt_eq]
            by_cases h : b < a <;> simp [h]
          · simp only [if_true, Builtin.max2, Sem.run_pure, cond_true, ilt_eq]
            by_cases h : a < b <;> simp [h]
        rw [this]
        exact h1
      · simp [hk] at e
  intro r x v r' x' hx hr hne e
  match r, hne with
  | b :: r, _ =>
    cases x with
    | i k a => cases hx; exact go hr e
    | _ => cases b <;> simp [minMax] at e
theorem ok_mnx (mx : Bool) (d : Option Nat) (args : Array Operand) (at_ : Array TypeId) (ty : Nat) (pos : String) (af : Array Edge) (g : Option (Nat × Bool)) : OpOK P T call ⟨d, .call ⟨.builtin (if mx then .max else .min), args, at_⟩, ty, pos, af, g⟩ := by
  intro kd c μ κ vs ts ls h w w₀ ev v ls' h' hx he
  have hc : (compO T kd c ⟨d, .call ⟨.builtin (if mx then .max else .min), args, at_⟩, ty, pos, af, g⟩) = ((match opds kd c args.toList with | some l => .mnx mx l | none => .no), none) := by
    cases mx <;> simp [compO, callO] <;> rfl
  rw [hc] at he ⊢
  simp only at he ⊢
  cases hl : opds kd c args.toList with
  | none => simp [hl, evO, e_no] at he
  | some l =>
  simp only [hl, evO, e_mnx] at he ⊢
  have rl := opds_ok hx.O args.toList l (fun x hm => by simpa [Op.operands, Call.operands] using hm) hl
  split at he
  · rename_i x r hxr
    rw [hxr] at rl
    obtain ⟨e1, rfl, rfl⟩ := Rs.of_ok he
    cases ha : args.toList.map ev with
    | nil => rw [ha] at rl; cases rl
    | cons x' r' =>
      rw [ha] at rl
      cases rl with | cons h1 h2 =>
      have hfold : ∃ y, ((r'.foldlM (if mx then Builtin.max2 else Builtin.min2) x').run P w = .ok y w) ∧ VRel μ v y := by
        cases r with
        | nil =>
          cases h2
          simp [minMax] at e1
          subst e1
          exact ⟨x', by simp, h1⟩
        | cons b r => exact minMax_ok mx w h1 h2 (by simp) e1
      obtain ⟨y, hy1, hy2⟩ := hfold
      have hargs : (args.map ev).toList = x' :: r' := by simpa using ha
      refine Does.pure hx hy2 rfl ?_
      cases mx
      · exact run_builtin (s := Builtin.min_ at_ ty (args.map ev)) (fun consts => by simp [builtin]) (by unfold Builtin.min_; rw [hargs]; simpa using hy1)
      · exact run_builtin (s := Builtin.max_ at_ ty (args.map ev)) (fun consts => by simp [builtin]) (by unfold Builtin.max_; rw [hargs]; simpa using hy1)
  · cases he
theorem part_take {cs r : List V} {o n m : Nat} (h : part cs o n = some r) (hm : m ≤ n) : part cs o m = some (r.take m) := by
  obtain ⟨h1, rfl, h3⟩ := part_some h
  rw [part_eq, if_pos (by omega), List.take_take, Nat.min_eq_left hm]
theorem hmm (a b : Nat) : Nat.min a b = bif Nat.ble a b then a else b := by
  show min a b = _
  by_cases h : a ≤ b
  · rw [Nat.min_eq_left h, Nat.ble_eq_true_of_le h]; rfl
  · rw [Nat.min_eq_right (by omega)]
    cases hb : Nat.ble a b with
    | true => exact absurd (Nat.le_of_ble_eq_true hb) h
    | false => rfl
theorem ok_copy (d : Option Nat) (args : Array Operand) (at_ : Array TypeId) (ty : Nat) (pos : String) (af : Array Edge) (g : Option (Nat × Bool)) : OpOK P T call ⟨d, .call ⟨.builtin .copy, args, at_⟩, ty, pos, af, g⟩ := by
  intro kd c μ κ vs ts ls h w w₀ ev v ls' h' hx he
  obtain ⟨args⟩ := args
  obtain ⟨at_⟩ := at_
  rcases args with _ | ⟨x, _ | ⟨y, _ | ⟨z, r⟩⟩⟩ <;> rcases at_ with _ | ⟨t, _ | ⟨u, _ | ⟨q, r'⟩⟩⟩ <;> try (simp [compO, callO, evO, e_no] at he; done)
  simp only [compO, callO] at he ⊢
  cases ht : tUnd T t with
  | none => simp [ht, evO, e_no] at he
  | some dt =>
  rw [ht] at he
  cases dt <;> try (simp [evO, e_no] at he; done)
  rename_i e
  simp only at he ⊢
  have hP := tUnd_ok hx.T ht
  cases hi : tInfo T e with
  | none => simp [hi, evO, e_no] at he
  | some ti =>
  cases hX : opd kd c x with
  | none => simp [hi, hX, evO, e_no] at he
  | some X =>
  cases hY : opd kd c y with
  | none => simp [hi, hX, hY, evO, e_no] at he
  | some Y =>
  have rx := hx.O.v _ _ (by simp [Op.operands, Call.operands]) hX
  have ry := hx.O.v _ _ (by simp [Op.operands, Call.operands]) hY
  simp only [hi, hX, hY] at he ⊢
  have hb : ∀ {w' : World} {z : Value}, (Builtin.copy_ #[t, u] ty #[ev x, ev y]).run P w = .ok z w' → (execOp ev ⟨d, .call ⟨.builtin .copy, ⟨[x, y]⟩, ⟨[t, u]⟩⟩, ty, pos, af, g⟩).run P w = .ok (.value z) w' :=
    fun h => run_builtin (s := Builtin.copy_ #[t, u] ty #[ev x, ev y]) (fun consts => by simp [builtin]) h
  cases hu : tUnd T u with
  | none => simp [hu, evO, e_no] at he
  | some du =>
  rw [hu] at he
  -- nothing is copied into nil
  have intoNil : ∀ {op : O} (n : Nat), boxed op = none → ev x = .slice none 0 0 → (∀ w, (Builtin.lenOf (ev y)).run P w = .ok n w) → (∃ ys, (Builtin.firstCells ti.sz 0 (ev y)).run P w = .ok ys w) → v = .i .i64 0 → ls' = ls → h' = h →
      Does P ⟨d, .call ⟨.builtin .copy, ⟨[x, y]⟩, ⟨[t, u]⟩⟩, ty, pos, af, g⟩ ev w (Res μ κ h w w₀ op none v ls' h') := by
    intro op n hbx h1 h2 ⟨ys, h3⟩ hv e1 e2
    subst hv e1 e2
    refine Does.pure hx (y := goInt (0 : Nat)) (.i _ _) hbx (hb ?_)
    simp only [Builtin.copy_, List.getElem?_toArray, List.getElem?_cons_zero, List.getElem?_cons_succ, Sem.run_bind, run_underlying hP, h1, h2, run_sizeOf hx.T hi, Result.andThen_ok, Nat.min_zero, h3, Sem.run_pure]
  -- into a row
  have into : ∀ {op : O} {szz : Nat} (b o n m len : Nat) (cap : Option Nat) (cs cs2 : List V) (src : List V) (ys : List Value), boxed op = none → VRel μ (.sl b o n szz cap) (ev x) → h.get b = some (.cells cs) → wrt cs o src = some cs2 → VRs μ src ys → oneCells ys →
      (∀ w, (Builtin.lenOf (ev y)).run P w = .ok len w) → Nat.min len n = m → (Builtin.firstCells ti.sz m (ev y)).run P w = .ok ys.toArray w → (m = 0 → src = []) → v = .i .i64 (.ofNat m) → ls' = ls → h' = h.set b (some (.cells cs2)) →
      Does P ⟨d, .call ⟨.builtin .copy, ⟨[x, y]⟩, ⟨[t, u]⟩⟩, ty, pos, af, g⟩ ev w (Res μ κ h w w₀ op none v ls' h') := by
    intro op szz b o n m len cap cs cs2 src ys hbx hrx hg hw hv ho hlen hm hfc h0 e1 e2 e3
    subst e1 e2 e3
    generalize hvx : ev x = x' at hrx
    cases hrx with | sl hmu hn hc ha hN =>
    rename_i c' β N a k
    obtain ⟨c2, β2, N2, hm2, hrow⟩ := hx.H.blk b _ hg
    rw [hmu] at hm2
    cases hm2
    have hrow' : Row μ cs w c' β N := hrow
    obtain ⟨hfit, rfl⟩ := wrt_some hw
    obtain ⟨w', hst, hr2, hon⟩ := hrow'.store (P := P) o src ys hv ho hfit
    have hst' : (storeCells ⟨c', a, none⟩ ys).run P w = .ok () w' := by
      by_cases hm0 : m = 0
      · have hs := h0 hm0
        subst hs
        cases hv
        simp [storeCells] at hst ⊢
        exact hst
      · have hmn : m ≤ n := by rw [← hm]; exact Nat.min_le_right _ _
        have : a = β + o := by rcases ha with h | h <;> omega
        rw [this]; exact hst
    refine Does.heap hx (hx.H.put hg hmu hon hr2) (Fr.put hg hmu hon) (y := goInt m) (.i _ _) hbx (.inl (hb ?_))
    simp only [Builtin.copy_, List.getElem?_toArray, List.getElem?_cons_zero, List.getElem?_cons_succ, Sem.run_bind, run_underlying hP, hvx, hlen, run_sizeOf hx.T hi, Result.andThen_ok, hm, hfc, hst', Sem.run_pure]
  cases du <;> try (simp [evO, e_no] at he; done)
  case string =>
    simp only [evO, e_cpyS] at he ⊢
    split at he
    · rename_i r b o n sz' cap hyr hxr
      rw [hyr] at ry
      rw [hxr] at rx
      cases hs : (!Nat.beq sz' 1) with
      | true => rw [hs] at he; simp at he
      | false =>
      rw [hs] at he
      simp only [cond_false, slen_eq, Nat.add_zero, ← hmm] at he
      split at he
      · rename_i cs hcs
        split at he
        · rename_i cs2 hw
          simp only [Rs.ok.injEq] at he
          obtain ⟨rfl, rfl, rfl⟩ := he
          generalize hvy : ev y = y' at ry
          cases ry with | s l s' hl =>
          have hsz := bytes_len hl
          have hv := vbytes_ok (μ := μ) (s'.extract 0 (Nat.min r.length n))
          have hex := bytes_extract hl 0 (Nat.min r.length n)
          simp only [List.drop_zero, Nat.sub_zero] at hex
          rw [hex] at hv
          exact into b o n (Nat.min r.length n) r.length cap cs cs2 _ _ rfl rx hcs hw hv.1 hv.2 (fun w => by rw [hvy]; simp [Builtin.lenOf, hsz]) rfl (by
            rw [hvy]
            simp only [Builtin.firstCells, Sem.run_pure]
            congr 1
            apply Array.ext'
            simp) (fun h0 => by rw [h0]; rfl) rfl rfl rfl
        · cases he
      · cases he
    · rename_i r hyr hxr
      rw [hyr] at ry
      rw [hxr] at rx
      generalize hvx : ev x = x' at rx
      cases rx
      simp only [Rs.ok.injEq] at he
      obtain ⟨rfl, rfl, rfl⟩ := he
      generalize hvy : ev y = y' at ry
      cases ry with | s l s' hl =>
      exact intoNil s'.size rfl hvx (fun w => by simp [hvy, Builtin.lenOf]) ⟨_, by simp [hvy, Builtin.firstCells]; rfl⟩ rfl rfl rfl
    · cases he
  case slice e' =>
    simp only [evO, e_cpy] at he ⊢
    split at he
    · rename_i src b o n sz' cap hsrc hxr
      cases hs : (!Nat.beq ti.sz sz') with
      | true => rw [hs] at he; simp at he
      | false =>
      rw [hs] at he
      have hsz : ti.sz = sz' := by simpa using hs
      subst hsz
      rw [hxr] at rx
      simp only [cond_false, vtake_eq] at he
      split at he
      · rename_i cs hcs
        split at he
        · rename_i cs2 hw
          simp only [Rs.ok.injEq] at he
          obtain ⟨rfl, rfl, rfl⟩ := he
          rcases cellsOf_ok hx.H ry hsrc with ⟨h1, hy, rfl⟩ | ⟨b2, o2, n2, cap2, c', β, N, a, k, cs', h1, h2, hrow, hp, ha, hn, hmu, hg⟩
          · rw [h1] at hw
            simp only [lenSl, List.take_nil] at hw
            exact into (op := .cpy X Y ti.sz) b o n 0 0 cap cs cs2 [] [] rfl rx hcs hw .nil (by simp [oneCells]) (fun w => by rw [hy]; simp [Builtin.lenOf]) (Nat.zero_min _) (by rw [hy]; simp [Builtin.firstCells]) (fun _ => rfl) (by rw [h1]; have : Nat.ble 0 n = true := Nat.ble_eq_true_of_le (Nat.zero_le _); simp [lenSl, this]) rfl rfl
          · rw [h1] at hw
            simp only [lenSl, ← hmm] at hw
            have hle : Nat.min n2 n ≤ n2 := Nat.min_le_left _ _
            have hp' := part_take hp (Nat.mul_le_mul_right ti.sz hle)
            obtain ⟨ys, f1, f2, f3⟩ := firstCells_some (P := P) (k := k) hrow hp' (by
              rcases ha with h | h
              · left
                have : n2 = 0 := by omega
                subst this
                show min 0 n * ti.sz = 0
                simp
              · exact .inr h)
            refine into (op := .cpy X Y ti.sz) b o n (Nat.min n2 n) n2 cap cs cs2 _ ys rfl rx hcs hw f2 f3 (fun w => by rw [h2]; simp [Builtin.lenOf]) rfl ?_ (fun h0 => by rw [h0]; simp) (by rw [h1, hmm]; rfl) rfl rfl
            rw [h2]
            have : ∀ n2', (Builtin.firstCells ti.sz (Nat.min n2 n) (.slice (some ⟨c', a, none⟩) n2' k)).run P w = (Builtin.firstCells ti.sz (Nat.min n2 n) (.slice (some ⟨c', a, none⟩) (Nat.min n2 n) k)).run P w := fun _ => rfl
            rw [this]
            exact f1
        · cases he
      · cases he
    · rename_i hsrc hxr
      rw [hxr] at rx
      generalize hvx : ev x = x' at rx
      cases rx
      simp only [Rs.ok.injEq] at he
      obtain ⟨rfl, rfl, rfl⟩ := he
      rcases cellsOf_ok hx.H ry hsrc with ⟨h1, hy, rfl⟩ | ⟨b2, o2, n2, cap2, c', β, N, a, k, cs', h1, h2, hrow, hp, ha, hn, hmu, hg⟩
      · exact intoNil 0 rfl hvx (fun w => by simp [hy, Builtin.lenOf]) ⟨_, by simp [hy, Builtin.firstCells]; rfl⟩ rfl rfl rfl
      · exact intoNil n2 rfl hvx (fun w => by simp [h2, Builtin.lenOf]) ⟨_, by simp [h2, Builtin.firstCells, loadCells, loadCellsFrom]; rfl⟩ rfl rfl rfl
    · cases he
end Am
namespace Am
open Go
variable {P : Program} {T : TT} {call : CallT} {μ : Mp}

theorem ok_clear (d : Option Nat) (args : Array Operand) (at_ : Array TypeId) (ty : Nat) (pos : String) (af : Array Edge) (g : Option (Nat × Bool)) : OpOK P T call ⟨d, .call ⟨.builtin .clear, args, at_⟩, ty, pos, af, g⟩ := by
  intro kd c μ κ vs ts ls h w w₀ ev v ls' h' hx he
  obtain ⟨args⟩ := args
  obtain ⟨at_⟩ := at_
  rcases args with _ | ⟨x, _ | ⟨y, r⟩⟩ <;> rcases at_ with _ | ⟨t, _ | ⟨u, r'⟩⟩ <;> try (simp [compO, callO, evO, e_no] at he; done)
  simp only [compO, callO] at he ⊢
  have hb : ∀ {w' : World} {z : Value}, (Builtin.clear_ #[t] ty #[ev x]).run P w = .ok z w' → (execOp ev ⟨d, .call ⟨.builtin .clear, ⟨[x]⟩, ⟨[t]⟩⟩, ty, pos, af, g⟩).run P w = .ok (.value z) w' :=
    fun h => run_builtin (s := Builtin.clear_ #[t] ty #[ev x]) (fun consts => by simp [builtin]) h
  cases ht : tUnd T t with
  | none => simp [ht, evO, e_no] at he
  | some dt =>
  rw [ht] at he
  have hP := tUnd_ok hx.T ht
  cases dt <;> try (simp [evO, e_no] at he; done)
  case slice e =>
    simp only at he ⊢
    cases hi : tInfo T e with
    | none => simp [hi, evO, e_no] at he
    | some ti =>
    cases hX : opd kd c x with
    | none => simp [hi, hX, evO, e_no] at he
    | some X =>
    have rx := hx.O.v _ _ (by simp [Op.operands, Call.operands]) hX
    simp only [hi, hX, evO, e_clr] at he ⊢
    split at he
    · rename_i hr
      rw [hr] at rx
      generalize hvy : ev x = y' at rx
      cases rx
      simp only [Rs.ok.injEq] at he
      obtain ⟨rfl, rfl, rfl⟩ := he
      exact Does.pure hx (y := .tuple #[]) (.t .nil) rfl (hb (by simp [Builtin.clear_, run_underlying hP, hvy]))
    · rename_i b o n sz' cap hr
      rw [hr] at rx
      generalize hvy : ev x = y' at rx
      cases rx with | sl hmu hn hc ha hN =>
      rename_i c' β N a k
      cases hs : (!Nat.beq ti.sz sz') with
      | true => rw [hs] at he; simp at he
      | false =>
      rw [hs] at he
      have hsz : ti.sz = sz' := by simpa using hs
      subst hsz
      simp only [cond_false] at he
      split at he
      · rename_i cs hcs
        split at he
        · rename_i cs2 hw
          simp only [Rs.ok.injEq] at he
          obtain ⟨rfl, rfl, rfl⟩ := he
          obtain ⟨c2, β2, N2, hm2, hrow⟩ := hx.H.blk b _ hcs
          rw [hmu] at hm2
          cases hm2
          have hrow' : Row μ cs w c' β N := hrow
          obtain ⟨hfit, rfl⟩ := wrt_some hw
          obtain ⟨z, hz, _, hvc, ho, hzs⟩ := run_zeroValue (P := P) hx.T hi w
          have h0 : 0 < ti.sz := by obtain ⟨i, z, d, _, _, _, _, _, h0, _⟩ := tInfo_ok hx.T hi; exact h0
          have hzc := zeroCells_eq z.cells ti.sz n hzs h0
          by_cases hn0 : n = 0
          · subst hn0
            have hov : over cs o (vrep 0 ti.zc) = cs := by show over cs o [] = cs; cases cs <;> rfl
            rw [hov]
            refine Does.heap hx (hx.H.put hcs hmu (Only.refl w c') (x' := .cells cs) hrow) (Fr.put hcs hmu (Only.refl w c')) (y := .tuple #[]) (.t .nil) rfl (.inl (hb ?_))
            simp [Builtin.clear_, run_underlying hP, hvy]
          · have ha' : a = β + o := by rcases ha with h | h <;> omega
            subst ha'
            have hvr : VRs μ (vrep n ti.zc) (List.replicate n z.cells.toList).flatten := by rw [vrep_eq]; exact (hvc μ).flat n
            obtain ⟨w', hst, hr2, hon⟩ := hrow'.store (P := P) o _ _ hvr (VRs.oneFlat ho n) hfit
            refine Does.heap hx (hx.H.put hcs hmu hon hr2) (Fr.put hcs hmu hon) (y := .tuple #[]) (.t .nil) rfl (.inl (hb ?_))
            rw [← hzc] at hst
            match n, hn0 with
            | n + 1, _ => simp [Builtin.clear_, run_underlying hP, hvy, hz, hst]
        · cases he
      · cases he
    · cases he
  case map kt vt =>
    simp only at he ⊢
    cases hX : opd kd c x with
    | none => simp [hX, evO, e_no] at he
    | some X =>
    have rx := hx.O.v _ _ (by simp [Op.operands, Call.operands]) hX
    simp only [hX, evO, e_mclr] at he ⊢
    split at he
    · rename_i hr
      rw [hr] at rx
      generalize hvy : ev x = y' at rx
      cases rx
      simp only [Rs.ok.injEq] at he
      obtain ⟨rfl, rfl, rfl⟩ := he
      exact Does.pure hx (y := .tuple #[]) (.t .nil) rfl (hb (by simp [Builtin.clear_, run_underlying hP, hvy]))
    · rename_i r hr
      rw [hr] at rx
      generalize hvy : ev x = y' at rx
      cases rx with | m hmu =>
      split at he
      · rename_i es hes
        obtain ⟨E, n, hE, hV⟩ := getMap hx.H hmu hes
        simp only [Rs.ok.injEq] at he
        obtain ⟨rfl, rfl, rfl⟩ := he
        refine Does.setMap hx hmu hes hE (n' := n) (E' := #[]) (y := .tuple #[]) .nil rfl (.t .nil) (.inl (hb ?_))
        simp [Builtin.clear_, run_underlying hP, hvy, getObj_run hE, run_setMap _ hE]
      · cases he
    · cases he

theorem wrap_small (n : Nat) (h : n < 2 ^ 62) : IntKind.i64.wrap (n : Int) = n := by
  rw [IntKind.wrap_i64]
  omega
theorem ok_makeSlice (d : Option Nat) (t : Nat) (l k : Operand) (ty : Nat) (pos : String) (af : Array Edge) (g : Option (Nat × Bool)) : OpOK P T call ⟨d, .makeSlice t l k, ty, pos, af, g⟩ := by
  intro kd c μ κ vs ts ls h w w₀ ev v ls' h' hx he
  simp only [compO] at he ⊢
  cases hs : sliceOf T t with
  | none => simp [hs, evO, e_no] at he
  | some te =>
  cases hL : opd kd c l with
  | none => simp [hs, hL, evO, e_no] at he
  | some L =>
  cases hK : opd kd c k with
  | none => simp [hs, hL, hK, evO, e_no] at he
  | some K =>
  simp only [hs, hL, hK, evO, e_mks] at he ⊢
  have rl := hx.O.v _ _ (by simp [Op.operands]) hL
  have rk := hx.O.v _ _ (by simp [Op.operands]) hK
  obtain ⟨e, hu, hi⟩ := sliceOf_ok hx.T hs
  obtain ⟨i, z0, dd, hPi, _, _, hsz, hby, h0, h1, _⟩ := tInfo_ok hx.T hi
  obtain ⟨z, hz, _, hvc, ho, hzs⟩ := run_zeroValue (P := P) hx.T hi w
  split at he
  · rename_i a b ha hb
    obtain ⟨k1, hl⟩ := nat_of rl ha
    obtain ⟨k2, hk⟩ := nat_of rk hb
    cases hbb : (Nat.ble a b && Nat.ble (b * te.by_) 1099511627776) with
    | false => rw [hbb] at he; simp at he
    | true =>
    rw [hbb] at he
    rw [Bool.and_eq_true] at hbb
    have hab := Nat.le_of_ble_eq_true hbb.1
    have hbytes := Nat.le_of_ble_eq_true hbb.2
    simp only [cond_true, Rs.ok.injEq] at he
    obtain ⟨rfl, rfl, rfl⟩ := he
    have hb2 : b ≤ b * te.by_ := Nat.le_mul_of_pos_right _ h1
    have wa := wrap_small a (by omega)
    have wb := wrap_small b (by omega)
    have hbz : (te.by_ : Int) * (b : Int) ≤ 1099511627776 := by rw [← Int.natCast_mul, Nat.mul_comm]; omega
    let row := (Array.range (b * te.sz)).map ((if b * te.sz = 0 then #[] else z.cells)[· % (if b * te.sz = 0 then #[] else z.cells).size]!)
    have hrow : row.toList = (List.replicate b z.cells.toList).flatten := by
      by_cases hb0 : b = 0
      · subst hb0
        simp [row]
      · have : b * te.sz ≠ 0 := by
          intro h; rcases Nat.mul_eq_zero.1 h with h | h <;> omega
        simp only [row, this, if_false]
        exact zeros_eq b z.cells te.sz hzs h0
    have hrun : (Instr.makeSlice t (ev l) (ev k)).run P w = .ok (.slice (some ⟨w.heap.size, 0, none⟩) a b) (w.alloc (.cells row e)) := by
      have e1 : ¬ ((b : Int) < 0) := by omega
      have e2 : ¬ ((te.by_ : Int) * (b : Int) > 2 ^ 48) := by omega
      have e3 : ¬ ((a : Int) < 0) := by omega
      have e4 : ¬ ((a : Int) > (b : Int)) := by omega
      simp only [Instr.makeSlice, Sem.run_bind, run_underlying hu, hl, hk, asInt, run_asIntOf, Result.andThen_ok, Sem.run_pure, run_typeInfo hPi, wa, wb, hby, e1, e2, e3, e4, decide_false, Bool.or_false, Bool.false_eq_true, if_false, run_askRoom, Int.toNat_natCast, run_sizeOf hx.T hi]
      by_cases hb0 : b * te.sz = 0
      · simp only [hb0, if_true, Sem.run_pure, Result.andThen_ok, newRow, run_newObj, Sem.run_bind]
        simp only [row, hb0, if_true]
        rfl
      · simp only [hb0, if_false, Sem.run_bind, hz, Sem.run_pure, Result.andThen_ok, newRow, run_newObj]
        simp only [row, hb0, if_false]
        rfl
    have gr := Grew.alloc w (.cells row e)
    have hN := Row.new0 (μ := upd μ h.n (w.heap.size, 0, (vrep b te.zc).length)) w (vrep b te.zc) row e (by rw [hrow, vrep_eq]; exact (hvc _).flat b) (by rw [hrow]; exact VRs.oneFlat ho b)
    refine Does.heap hx (hx.H.new gr (.cells (vrep b te.zc)) (vrep b te.zc).length hN) (Fr.new hx.H gr _ _) (.sl (β := 0) (upd_self _ _) hab (by intro j hj; cases hj; rfl) (.inr rfl) ?_) rfl (.inl (by simp [execOp, hrun]))
    have hl := (hvc μ).length
    rw [vrep_eq]
    simp [hl, hzs]
  · cases he
theorem ok_callf (hc : CallOK P call) (d : Option Nat) (f : Operand) (args : Array Operand) (at_ : Array TypeId) (ty : Nat) (pos : String) (af : Array Edge) (g : Option (Nat × Bool)) : OpOK P T call ⟨d, .call ⟨.value f, args, at_⟩, ty, pos, af, g⟩ := by
  intro kd c μ κ vs ts ls h w w₀ ev v ls' h' hx he
  have fin : ∀ {op : O} (n : Nat) (as : List V) (as' : Array Value), boxed op = none → Rs.ofP ls (call n as h) = .ok v ls' h' → VRs μ as as'.toList →
      (execOp ev ⟨d, .call ⟨.value f, args, at_⟩, ty, pos, af, g⟩).run P w = (callFunc n as').run P w →
      Does P ⟨d, .call ⟨.value f, args, at_⟩, ty, pos, af, g⟩ ev w (Res μ κ h w w₀ op none v ls' h') := by
    intro op n as as' hb e hv hr
    obtain ⟨e1, rfl⟩ := Rs.ofP_ok e
    have conv : ∀ y w', (∃ μ', HRel μ' h' w' ∧ Fr μ h w μ' h' w' ∧ VRel μ' v y) → Res μ κ h w w₀ op none v ls' h' y w' :=
      fun y w' ⟨μ', h1, h2, h3⟩ => ⟨μ', κ, h1, hx.L.frame h2, h2.weak hx.w, by rw [hb]; exact h3, fun _ _ => rfl⟩
    rcases hc n as h v h' e1 μ w as' hx.H hv with ⟨y, w', hR, hrun⟩ | ⟨w1, hrun, hcalls⟩
    · exact .inl ⟨y, w', conv y w' hR, .inl (by rw [hr]; exact hrun)⟩
    · refine .inr ⟨n, as', w1, by rw [hr]; exact hrun, Calls.mono hcalls fun e w' he => ?_⟩
      cases e with
      | returned y => exact conv y w' he
      | panicked ch => exact he
      | outgrown => exact he
  have hargs : ∀ {l : List X}, opds kd c args.toList = some l → VRs μ (getXs vs ts l) (args.map ev).toList := by
    intro l hl
    have := opds_ok hx.O args.toList l (fun x hm => by simpa [Op.operands, Call.operands] using .inr (by simpa using hm)) hl
    simpa using this
  have vals : evO call vs ts ls h (match opd kd c f, opds kd c args.toList with | some x, some l => .callv x l | _, _ => .no) = .ok v ls' h' →
      Does P ⟨d, .call ⟨.value f, args, at_⟩, ty, pos, af, g⟩ ev w (Res μ κ h w w₀ (match opd kd c f, opds kd c args.toList with | some x, some l => .callv x l | _, _ => .no) none v ls' h') := by
    intro he
    cases hF : opd kd c f with
    | none => simp [hF, evO, e_no] at he
    | some F =>
    cases hl : opds kd c args.toList with
    | none => simp [hF, hl, evO, e_no] at he
    | some l =>
    simp only [hF, hl, evO, e_callv] at he ⊢
    have rf := hx.O.v _ _ (by simp [Op.operands, Call.operands]) hF
    split at he
    · rename_i n fs cs hr
      rw [hr] at rf
      generalize hvf : ev f = f' at rf
      cases rf with | f h1 h2 =>
      rename_i fs' cs'
      refine fin n _ (fs' ++ args.map ev ++ cs') rfl he ?_ ?_
      · rw [vapp_eq, vapp_eq, ← List.append_assoc]
        have := (h1.append (hargs hl)).append h2
        simpa using this
      · simp [execOp, resolve, hvf, Deferred.ofValue, invoke]
    · cases he
  cases f with
  | func n =>
    simp only [compO, callO] at he ⊢
    cases hl : opds kd c args.toList with
    | none => simp [hl, evO, e_no] at he
    | some l =>
    simp only [hl, evO, e_call] at he ⊢
    have rf := hx.O.v (.func n) (.c (.f n [] [])) (by simp [Op.operands, Call.operands]) rfl
    simp only [getX] at rf
    generalize hvf : ev (.func n) = f' at rf
    cases rf with | f h1 h2 =>
    rename_i fs' cs'
    have e1 : fs' = #[] := by cases fs'; cases h1; rfl
    have e2 : cs' = #[] := by cases cs'; cases h2; rfl
    subst e1 e2
    refine fin n _ (args.map ev) rfl he (hargs hl) ?_
    simp [execOp, resolve, hvf, Deferred.ofValue, invoke]
  | tmp t => exact vals he
  | const v0 => exact vals he
  | global g0 => exact vals he
end Am
namespace Am
open Go
variable {P : Program} {T : TT} {call : CallT} {μ : Mp}
theorem ok_all (hc : CallOK P call) (o : Oper) : OpOK P T call o := by
  obtain ⟨d, op, ty, pos, af, g⟩ := o
  have no : (∀ kd c, compO T kd c ⟨d, op, ty, pos, af, g⟩ = (.no, none)) → OpOK P T call ⟨d, op, ty, pos, af, g⟩ := by
    intro hn kd c μ κ vs ts ls h w w₀ ev v ls' h' hx he
    rw [hn] at he
    simp [evO, e_no] at he
  cases op
  case move => exact ok_move  _ _ _ _ _ _
  case assign => exact ok_assign  _ _ _ _ _ _
  case pick => exact ok_pick  _ _ _ _ _ _ _ _
  case alloc => exact ok_alloc  _ _ _ _ _ _
  case box => exact ok_box  _ _ _ _ _ _ _
  case build => exact ok_build  _ _ _ _ _ _ _
  case buildSlice => exact ok_buildSlice  _ _ _ _ _ _ _ _
  case load => exact ok_load  _ _ _ _ _ _ _
  case store => exact ok_store  _ _ _ _ _ _ _ _
  case nilCheck => exact ok_nilCheck  _ _ _ _ _ _
  case binOp => exact ok_binOp  _ _ _ _ _ _ _ _ _ _
  case unOp => exact ok_unOp  _ _ _ _ _ _ _ _
  case convert => exact ok_convert  _ _ _ _ _ _ _ _
  case makeInterface => exact ok_makeInterface  _ _ _ _ _ _ _
  case makeFunc fn a b =>
    cases fn with
    | func f => exact ok_makeFunc  _ _ _ _ _ _ _ _
    | _ => exact no fun kd c => rfl
  case makeMap => exact ok_makeMap  _ _ _ _ _ _ _
  case makeSlice => exact ok_makeSlice  _ _ _ _ _ _ _ _
  case slice => exact ok_slice  _ _ _ _ _ _ _ _ _ _
  case fieldAddr => exact ok_fieldAddr  _ _ _ _ _ _ _ _
  case field => exact ok_field  _ _ _ _ _ _ _ _
  case indexAddr => exact ok_indexAddr  _ _ _ _ _ _ _ _
  case index => exact ok_index  _ _ _ _ _ _ _ _
  case lookup => exact ok_lookup  _ _ _ _ _ _ _ _ _
  case mapUpdate => exact ok_mapUpdate  _ _ _ _ _ _ _ _ _
  case extract => exact ok_extract  _ _ _ _ _ _ _
  case call cl =>
    obtain ⟨cal, args, at_⟩ := cl
    cases cal with
    | value f => exact ok_callf hc _ _ _ _ _ _ _ _
    | invoke r n => exact no fun kd c => rfl
    | builtin b =>
      cases b
      case append => exact ok_append  _ _ _ _ _ _ _
      case len => exact ok_len  _ _ _ _ _ _ _
      case cap => exact ok_cap  _ _ _ _ _ _ _
      case copy => exact ok_copy  _ _ _ _ _ _ _
      case clear => exact ok_clear  _ _ _ _ _ _ _
      case delete => exact ok_delete  _ _ _ _ _ _ _
      case max => exact ok_mnx true _ _ _ _ _ _ _
      case min => exact ok_mnx false _ _ _ _ _ _ _
      all_goals exact no fun kd c => by simp [compO, callO]
  all_goals exact no fun kd c => rfl
end Am
namespace Am
open Go
variable {P : Program} {T : TT} {call : CallT} {μ : Mp}

/-! The last one so far -/
def lastP (p : Nat → Bool) : Nat → Option Nat
  | 0 => none
  | n + 1 => if p n then some n else lastP p n
theorem lastP_congr {p q : Nat → Bool} : ∀ {n : Nat}, (∀ k < n, p k = q k) → lastP p n = lastP q n
  | 0, _ => rfl
  | n + 1, h => by
    simp only [lastP, h n (by omega)]
    rw [lastP_congr (n := n) fun k hk => h k (by omega)]
theorem lastP_some {p : Nat → Bool} : ∀ {n k : Nat}, lastP p n = some k → k < n ∧ p k = true ∧ ∀ j, k < j → j < n → p j = false
  | n + 1, k, h => by
    simp only [lastP] at h
    split at h
    · rename_i hp
      cases h
      exact ⟨by omega, hp, fun j h1 h2 => by omega⟩
    · rename_i hp
      obtain ⟨h1, h2, h3⟩ := lastP_some h
      refine ⟨by omega, h2, fun j hj hjn => ?_⟩
      by_cases e : j = n
      · subst e; simpa using hp
      · exact h3 j hj (by omega)
theorem lastP_none {p : Nat → Bool} : ∀ {n : Nat}, lastP p n = none → ∀ k < n, p k = false
  | n + 1, h, k, hk => by
    simp only [lastP] at h
    split at h
    · cases h
    · rename_i hp
      by_cases e : k = n
      · subst e; simpa using hp
      · exact lastP_none h k (by omega)
theorem lastP_is {p : Nat → Bool} {n k : Nat} (hk : k < n) (hp : p k = true) (h : ∀ j, k < j → j < n → p j = false) : lastP p n = some k := by
  cases hl : lastP p n with
  | none => rw [lastP_none hl k hk] at hp; cases hp
  | some m =>
    obtain ⟨h1, h2, h3⟩ := lastP_some hl
    rcases Nat.lt_trichotomy m k with e | e | e
    · rw [h3 k e hk] at hp; cases hp
    · rw [e]
    · rw [h m e h1] at h2; cases h2
theorem lastP_not {p : Nat → Bool} {n : Nat} (h : ∀ k < n, p k = false) : lastP p n = none := by
  cases hl : lastP p n with
  | none => rfl
  | some m =>
    obtain ⟨h1, h2, _⟩ := lastP_some hl
    rw [h m h1] at h2; cases h2

/-! What is compiled, place by place -/
def cxAt (T : TT) (kd : List Kd) : List Oper → Ctx → Nat → Ctx
  | [], c, _ => c
  | _ :: _, c, 0 => c
  | o :: r, c, i + 1 => cxAt T kd r ⟨dstT kd o.dst :: c.ds, (compO T kd c o).2 :: c.rt⟩ i
theorem compR_at {kd : List Kd} : ∀ {r : List Oper} {n : Nat} {c c' : Ctx} {l : List RO}, compR T kd r n c = some (l, c') → ∀ i o, r[i]? = some o →
    ∃ g d, roAt l i = some ⟨g, d, (compO T kd (cxAt T kd r c i) o).1⟩ ∧ grd (n + i) (cxAt T kd r c i) o.guard = some g ∧ dstV kd o.dst = some d ∧ dstOk kd o = true ∧ rtOk d (compO T kd (cxAt T kd r c i) o).2 = true := by
  intro r
  induction r with
  | nil => intro n c c' l _ i o hi; simp at hi
  | cons a r ih =>
    intro n c c' l h i o hi
    simp only [compR] at h
    split at h
    · rename_i g d hg hd
      cases hb : (!(dstOk kd a && rtOk d (compO T kd c a).2)) with
      | true => rw [hb] at h; simp at h
      | false =>
      rw [hb] at h
      simp only [Bool.not_eq_false', Bool.and_eq_true] at hb
      simp only [cond_false] at h
      split at h
      · rename_i l2 c2 h2
        cases h
        cases i with
        | zero => simp at hi; subst hi; exact ⟨g, d, rfl, hg, hd, hb.1, hb.2⟩
        | succ i =>
          simp at hi
          obtain ⟨g', d', e1, e2, e3, e4, e5⟩ := ih h2 i o hi
          exact ⟨g', d', e1, by rw [show n + (i + 1) = n + 1 + i by omega]; exact e2, e3, e4, e5⟩
      · cases h
    · cases h
theorem compR_out {kd : List Kd} : ∀ {r : List Oper} {n : Nat} {c c' : Ctx} {l : List RO}, compR T kd r n c = some (l, c') → ∀ i, r[i]? = none → roAt l i = none := by
  intro r
  induction r with
  | nil => intro n c c' l h i _; simp [compR] at h; obtain ⟨rfl, _⟩ := h; rfl
  | cons a r ih =>
    intro n c c' l h i hi
    simp only [compR] at h
    split at h
    · rename_i g d hg hd
      cases hb : (!(dstOk kd a && rtOk d (compO T kd c a).2)) with
      | true => rw [hb] at h; simp at h
      | false =>
      rw [hb] at h
      simp only [cond_false] at h
      split at h
      · rename_i l2 c2 h2
        cases h
        cases i with
        | zero => simp at hi
        | succ i => simp at hi; exact ih h2 i (by simpa using hi)
      · cases h
    · cases h
theorem dsAt_eq (l : List (Option Nat)) (i : Nat) : dsAt l i = (l[i]?).getD none := by
  induction l generalizing i with
  | nil => simp [dsAt]
  | cons x l ih => cases i <;> simp [dsAt, ih]
theorem rtAt_eq (l : List Rt) (i : Nat) : rtAt l i = (l[i]?).getD none := by
  induction l generalizing i with
  | nil => simp [rtAt]
  | cons x l ih => cases i <;> simp [rtAt, ih]
theorem cxAt_back {kd : List Kd} : ∀ {r : List Oper} {c : Ctx} {i k : Nat} {o : Oper}, i ≤ r.length → k < i → r[k]? = some o →
    (cxAt T kd r c i).ds[i - 1 - k]? = some (dstT kd o.dst) ∧ (cxAt T kd r c i).rt[i - 1 - k]? = some (compO T kd (cxAt T kd r c k) o).2 := by
  have tail : ∀ {r : List Oper} {c : Ctx} {i : Nat}, i ≤ r.length → ∀ j, (cxAt T kd r c i).ds[i + j]? = c.ds[j]? ∧ (cxAt T kd r c i).rt[i + j]? = c.rt[j]? := by
    intro r
    induction r with
    | nil => intro c i hi j; simp at hi; subst hi; simp [cxAt]
    | cons a r ih =>
      intro c i hi j
      cases i with
      | zero => simp [cxAt]
      | succ i =>
        simp at hi
        have := ih (c := ⟨dstT kd a.dst :: c.ds, (compO T kd c a).2 :: c.rt⟩) hi (j + 1)
        simp only [cxAt]
        rw [show i + 1 + j = i + (j + 1) by omega]
        simpa using this
  intro r
  induction r with
  | nil => intro c i k o hi hk; simp at hi; omega
  | cons a r ih =>
    intro c i k o hi hk ho
    cases i with
    | zero => omega
    | succ i =>
      simp at hi
      simp only [cxAt]
      cases k with
      | zero =>
        simp at ho
        subst ho
        have := tail (c := ⟨dstT kd a.dst :: c.ds, (compO T kd c a).2 :: c.rt⟩) hi 0
        simpa [cxAt] using this
      | succ k =>
        simp at ho
        have := ih (c := ⟨dstT kd a.dst :: c.ds, (compO T kd c a).2 :: c.rt⟩) (i := i) (k := k) hi (by omega) ho
        rw [show i + 1 - 1 - (k + 1) = i - 1 - k by omega]
        exact this
theorem cxAt_len {kd : List Kd} : ∀ {r : List Oper} {c : Ctx} {i : Nat}, i ≤ r.length → (cxAt T kd r c i).ds.length = i + c.ds.length ∧ (cxAt T kd r c i).rt.length = i + c.rt.length := by
  intro r
  induction r with
  | nil => intro c i hi; simp at hi; subst hi; simp [cxAt]
  | cons a r ih =>
    intro c i hi
    cases i with
    | zero => simp [cxAt]
    | succ i =>
      simp at hi
      have := ih (c := ⟨dstT kd a.dst :: c.ds, (compO T kd c a).2 :: c.rt⟩) hi
      simp only [cxAt, List.length_cons] at this ⊢
      omega
theorem findD_some {t : Nat} : ∀ {l : List (Option Nat)} {n d : Nat}, findD t l n = some d → n ≤ d ∧ l[d - n]? = some (some t) ∧ ∀ j, j < d - n → l[j]? ≠ some (some t) := by
  intro l
  induction l with
  | nil => intro n d h; simp [findD] at h
  | cons x l ih =>
    intro n d h
    have step : findD t l (n + 1) = some d → x ≠ some t → n ≤ d ∧ (x :: l)[d - n]? = some (some t) ∧ ∀ j, j < d - n → (x :: l)[j]? ≠ some (some t) := by
      intro h hx
      obtain ⟨h1, h2, h3⟩ := ih h
      refine ⟨by omega, ?_, fun j hj => ?_⟩
      · rw [show d - n = (d - (n + 1)) + 1 by omega]; simpa using h2
      · cases j with
        | zero => simpa using hx
        | succ j => simpa using h3 j (by omega)
    cases x with
    | none => exact step h (by simp)
    | some u =>
      simp only [findD] at h
      cases hb : Nat.beq u t with
      | true =>
        rw [hb] at h
        have hu : u = t := by simpa [Nat.beq_eq] using hb
        simp at h
        subst h hu
        simp
      | false =>
        rw [hb] at h
        exact step h (by rintro ⟨⟩; simp at hb)
end Am
namespace Am
open Go
variable {call : CallT}
theorem setSlot_len (ls : Ls) (s : Nat) (cs : List V) : (setSlot ls s cs).length = ls.length := by
  induction ls generalizing s with
  | nil => rfl
  | cons a ls ih => cases s <;> simp [setSlot, ih]
def Local (call : CallT) (o : O) : Prop := ∀ vs ts ls h v ls' h', evO call vs ts ls h o = .ok v ls' h' →
  ls'.length = ls.length ∧ ((fp o).wh = false → h' = h) ∧ (∀ s, ¬ ((fp o).sl = some s ∧ (fp o).sw = true) → slot ls' s = slot ls s) ∧
  ∀ ls2 h2, (∀ s, (fp o).sl = some s → slot ls2 s = slot ls s) → ls2.length = ls.length → ((fp o).rh = true → h2 = h) →
    ∃ ls2', evO call vs ts ls2 h2 o = .ok v ls2' (if (fp o).wh then h' else h2) ∧ ls2'.length = ls2.length ∧ ∀ s, slot ls2' s = if (fp o).sl = some s ∧ (fp o).sw = true then slot ls' s else slot ls2 s
def Rs.val : Rs → Option V
  | .ok v _ _ => some v
  | .no => none
def Rs.valP : Rs → Option (V × H)
  | .ok v _ h => some (v, h)
  | .no => none
@[simp] theorem Rs.val_of (ls : Ls) (h : H) (x : Option V) : (Rs.of ls h x).val = x := by cases x <;> rfl
@[simp] theorem Rs.valP_ofP (ls : Ls) (x : Option (V × H)) : (Rs.ofP ls x).valP = x := by cases x <;> rfl
@[simp] theorem fold_ok (v : V) (ls : Ls) (h : H) : Rs.of ls h (some v) = .ok v ls h := rfl
@[simp] theorem fold_no (ls : Ls) (h : H) : Rs.of ls h none = .no := rfl
@[simp] theorem foldP_ok (v : V) (ls : Ls) (h : H) : Rs.ofP ls (some (v, h)) = .ok v ls h := rfl
@[simp] theorem foldP_no (ls : Ls) : Rs.ofP ls none = .no := rfl
@[simp] theorem Rs.val_ok (v : V) (ls : Ls) (h : H) : (Rs.ok v ls h).val = some v := rfl
@[simp] theorem Rs.val_no : Rs.no.val = none := rfl
@[simp] theorem Rs.valP_ok (v : V) (ls : Ls) (h : H) : (Rs.ok v ls h).valP = some (v, h) := rfl
@[simp] theorem Rs.valP_no : Rs.no.valP = none := rfl
/-- nothing but values -/
theorem local_pure {o : O} (hf : ∀ vs ts ls h ls2 h2, evO call vs ts ls h o = Rs.of ls h (evO call vs ts ls2 h2 o).val) (hp : fp o = ⟨none, false, false, false⟩) : Local call o := by
  intro vs ts ls h v ls' h' he
  have e0 := hf vs ts ls h ls h
  rw [he] at e0
  simp only [Rs.val, Rs.of, Rs.ok.injEq, true_and] at e0
  obtain ⟨rfl, rfl⟩ := e0
  rw [hp]
  refine ⟨rfl, fun _ => rfl, fun _ _ => rfl, fun ls2 h2 _ _ _ => ⟨ls2, ?_, rfl, fun s => by simp⟩⟩
  rw [hf vs ts ls2 h2 ls' h', he]
  rfl
/-- the heap is read -/
theorem local_read {o : O} (hf : ∀ vs ts ls h ls2, evO call vs ts ls h o = Rs.of ls h (evO call vs ts ls2 h o).val) (hp : fp o = ⟨none, false, true, false⟩) : Local call o := by
  intro vs ts ls h v ls' h' he
  have e0 := hf vs ts ls h ls
  rw [he] at e0
  simp only [Rs.val, Rs.of, Rs.ok.injEq, true_and] at e0
  obtain ⟨rfl, rfl⟩ := e0
  rw [hp]
  refine ⟨rfl, fun _ => rfl, fun _ _ => rfl, fun ls2 h2 _ _ hh => ⟨ls2, ?_, rfl, fun s => by simp⟩⟩
  have := hh rfl
  subst this
  rw [hf vs ts ls2 h2 ls', he]
  rfl
/-- the heap is written -/
theorem local_heap {o : O} (hf : ∀ vs ts ls h ls2, evO call vs ts ls h o = Rs.ofP ls (evO call vs ts ls2 h o).valP) (hp : fp o = ⟨none, false, true, true⟩) : Local call o := by
  intro vs ts ls h v ls' h' he
  have e0 := hf vs ts ls h ls
  rw [he] at e0
  simp only [Rs.valP, Rs.ofP, Rs.ok.injEq, true_and, and_true] at e0
  subst e0
  rw [hp]
  refine ⟨rfl, fun h => (by cases h), fun _ _ => rfl, fun ls2 h2 _ _ hh => ⟨ls2, ?_, rfl, fun s => by simp⟩⟩
  have := hh rfl
  subst this
  rw [hf vs ts ls2 h2 ls', he]
  rfl
/-- a slot is read -/
theorem local_slot {o : O} (s : Nat) (hf : ∀ vs ts ls h ls2 h2, slot ls s = slot ls2 s → evO call vs ts ls h o = Rs.of ls h (evO call vs ts ls2 h2 o).val) (hp : fp o = ⟨some s, false, false, false⟩) : Local call o := by
  intro vs ts ls h v ls' h' he
  have e0 := hf vs ts ls h ls h rfl
  rw [he] at e0
  simp only [Rs.val, Rs.of, Rs.ok.injEq, true_and] at e0
  obtain ⟨rfl, rfl⟩ := e0
  rw [hp]
  refine ⟨rfl, fun _ => rfl, fun _ _ => rfl, fun ls2 h2 hs _ _ => ⟨ls2, ?_, rfl, fun s => by simp⟩⟩
  rw [hf vs ts ls2 h2 ls' h' (hs s rfl), he]
  rfl
/-- a slot is read, the heap is written -/
theorem local_slotH {o : O} (s : Nat) (hf : ∀ vs ts ls h ls2, slot ls s = slot ls2 s → evO call vs ts ls h o = Rs.ofP ls (evO call vs ts ls2 h o).valP) (hp : fp o = ⟨some s, false, true, true⟩) : Local call o := by
  intro vs ts ls h v ls' h' he
  have e0 := hf vs ts ls h ls rfl
  rw [he] at e0
  simp only [Rs.valP, Rs.ofP, Rs.ok.injEq, true_and, and_true] at e0
  subst e0
  rw [hp]
  refine ⟨rfl, fun h => (by cases h), fun _ _ => rfl, fun ls2 h2 hs _ hh => ⟨ls2, ?_, rfl, fun s => by simp⟩⟩
  have := hh rfl
  subst this
  rw [hf vs ts ls2 h2 ls' (hs s rfl), he]
  rfl
/-- a slot is written -/
def Rs.ofS (ls : Ls) (s : Nat) (h : H) : Option (V × List V) → Rs
  | some (v, cs) => .ok v (setSlot ls s cs) h
  | none => .no
@[simp] theorem Rs.ofS_some (ls : Ls) (s : Nat) (h : H) (v : V) (cs : List V) : Rs.ofS ls s h (some (v, cs)) = .ok v (setSlot ls s cs) h := rfl
@[simp] theorem Rs.ofS_none (ls : Ls) (s : Nat) (h : H) : Rs.ofS ls s h none = .no := rfl
theorem local_slotW {o : O} (s : Nat) (f : List V → List V → Option (List V) → Option (V × List V)) (hf : ∀ vs ts ls h, evO call vs ts ls h o = Rs.ofS ls s h (f vs ts (slot ls s))) (hp : fp o = ⟨some s, true, false, false⟩) : Local call o := by
  intro vs ts ls h v ls' h' he
  rw [hf] at he
  cases hr : f vs ts (slot ls s) with
  | none => rw [hr] at he; simp [Rs.ofS] at he
  | some p =>
  obtain ⟨v0, cs⟩ := p
  rw [hr] at he
  simp only [Rs.ofS, Rs.ok.injEq] at he
  obtain ⟨rfl, rfl, rfl⟩ := he
  rw [hp]
  refine ⟨setSlot_len _ _ _, fun _ => rfl, fun s' hs => ?_, fun ls2 h2 hs hl _ => ⟨setSlot ls2 s cs, ?_, setSlot_len _ _ _, fun s' => ?_⟩⟩
  · rw [slot_set]
    simp only [and_true, Option.some.injEq] at hs
    rw [if_neg (fun h => hs h.1.symm)]
  · rw [hf, hs s rfl, hr]; rfl
  · rw [slot_set, slot_set, hl]
    by_cases e : s' = s
    · subst e
      simp only [true_and, and_self, if_true]
      have := hs s' rfl
      split <;> first | rfl | exact this
    · simp [e, Ne.symm e]
theorem loc_mv : ∀ x0 , Local call (.mv x0) := by
  intro x0
  refine local_pure (fun vs ts ls h ls2 h2 => ?_) rfl
  simp only [evO, e_mv]
  (repeat' split) <;> first | rfl | simp_all
theorem loc_pick : ∀ x0 x1 x2 , Local call (.pick x0 x1 x2) := by
  intro x0 x1 x2
  refine local_pure (fun vs ts ls h ls2 h2 => ?_) rfl
  simp only [evO, e_pick, Bool.cond_eq_ite]
  (repeat' split) <;> first | rfl | simp_all
theorem loc_un : ∀ x0 x1 , Local call (.un x0 x1) := by
  intro x0 x1
  refine local_pure (fun vs ts ls h ls2 h2 => ?_) rfl
  simp only [evO, e_un]
  (repeat' split) <;> first | rfl | simp_all
theorem loc_bin : ∀ x0 x1 x2 , Local call (.bin x0 x1 x2) := by
  intro x0 x1 x2
  refine local_pure (fun vs ts ls h ls2 h2 => ?_) rfl
  simp only [evO, e_bin]
  (repeat' split) <;> first | rfl | simp_all
theorem loc_eqv : ∀ x0 x1 x2 x3 , Local call (.eqv x0 x1 x2 x3) := by
  intro x0 x1 x2 x3
  refine local_pure (fun vs ts ls h ls2 h2 => ?_) rfl
  simp only [evO, e_eqv, Bool.cond_eq_ite]
  (repeat' split) <;> first | rfl | simp_all
theorem loc_cvI : ∀ x0 x1 , Local call (.cvI x0 x1) := by
  intro x0 x1
  refine local_pure (fun vs ts ls h ls2 h2 => ?_) rfl
  simp only [evO, e_cvI]
  (repeat' split) <;> first | rfl | simp_all
theorem loc_same : ∀ x0 , Local call (.same x0) := by
  intro x0
  refine local_pure (fun vs ts ls h ls2 h2 => ?_) rfl
  simp only [evO, e_same]
  (repeat' split) <;> first | rfl | simp_all
theorem loc_i2s : ∀ x0 , Local call (.i2s x0) := by
  intro x0
  refine local_pure (fun vs ts ls h ls2 h2 => ?_) rfl
  simp only [evO, e_i2s, Bool.cond_eq_ite]
  (repeat' split) <;> first | rfl | simp_all
theorem loc_ext : ∀ x0 x1 , Local call (.ext x0 x1) := by
  intro x0 x1
  refine local_pure (fun vs ts ls h ls2 h2 => ?_) rfl
  simp only [evO, e_ext, Bool.cond_eq_ite]
  (repeat' split) <;> first | rfl | simp_all
theorem loc_fld : ∀ x0 x1 x2 x3 , Local call (.fld x0 x1 x2 x3) := by
  intro x0 x1 x2 x3
  refine local_pure (fun vs ts ls h ls2 h2 => ?_) rfl
  simp only [evO, e_fld]
  (repeat' split) <;> first | rfl | simp_all
theorem loc_idx : ∀ x0 x1 x2 x3 x4 , Local call (.idx x0 x1 x2 x3 x4) := by
  intro x0 x1 x2 x3 x4
  refine local_pure (fun vs ts ls h ls2 h2 => ?_) rfl
  simp only [evO, e_idx, Bool.cond_eq_ite]
  (repeat' split) <;> first | rfl | simp_all
theorem loc_sidx : ∀ x0 x1 , Local call (.sidx x0 x1) := by
  intro x0 x1
  refine local_pure (fun vs ts ls h ls2 h2 => ?_) rfl
  simp only [evO, e_sidx]
  (repeat' split) <;> first | rfl | simp_all
theorem loc_bld : ∀ x0 x1 , Local call (.bld x0 x1) := by
  intro x0 x1
  refine local_pure (fun vs ts ls h ls2 h2 => ?_) rfl
  simp only [evO, e_bld]
  (repeat' split) <;> first | rfl | simp_all
theorem loc_lenS : ∀ x0 , Local call (.lenS x0) := by
  intro x0
  refine local_pure (fun vs ts ls h ls2 h2 => ?_) rfl
  simp only [evO, e_lenS]
  (repeat' split) <;> first | rfl | simp_all
theorem loc_lenL : ∀ x0 , Local call (.lenL x0) := by
  intro x0
  refine local_pure (fun vs ts ls h ls2 h2 => ?_) rfl
  simp only [evO, e_lenL]
  (repeat' split) <;> first | rfl | simp_all
theorem loc_lenA : ∀ x0 , Local call (.lenA x0) := by
  intro x0
  refine local_pure (fun vs ts ls h ls2 h2 => ?_) rfl
  simp only [evO, e_lenA]
  (repeat' split) <;> first | rfl | simp_all
theorem loc_capL : ∀ x0 , Local call (.capL x0) := by
  intro x0
  refine local_pure (fun vs ts ls h ls2 h2 => ?_) rfl
  simp only [evO, e_capL]
  (repeat' split) <;> first | rfl | simp_all
theorem loc_mnx : ∀ x0 x1 , Local call (.mnx x0 x1) := by
  intro x0 x1
  refine local_pure (fun vs ts ls h ls2 h2 => ?_) rfl
  simp only [evO, e_mnx]
  (repeat' split) <;> first | rfl | simp_all
theorem loc_sub : ∀ x0 x1 x2 x3 x4 , Local call (.sub x0 x1 x2 x3 x4) := by
  intro x0 x1 x2 x3 x4
  refine local_pure (fun vs ts ls h ls2 h2 => ?_) rfl
  simp only [evO, e_sub, Bool.cond_eq_ite]
  (repeat' split) <;> first | rfl | simp_all
theorem loc_ssub : ∀ x0 x1 x2 , Local call (.ssub x0 x1 x2) := by
  intro x0 x1 x2
  refine local_pure (fun vs ts ls h ls2 h2 => ?_) rfl
  simp only [evO, e_ssub]
  (repeat' split) <;> first | rfl | simp_all
theorem loc_nilc : ∀ x0 , Local call (.nilc x0) := by
  intro x0
  refine local_pure (fun vs ts ls h ls2 h2 => ?_) rfl
  simp only [evO, e_nilc]
  (repeat' split) <;> first | rfl | simp_all
theorem loc_mkf : ∀ x0 x1 x2 , Local call (.mkf x0 x1 x2) := by
  intro x0 x1 x2
  refine local_pure (fun vs ts ls h ls2 h2 => ?_) rfl
  simp only [evO, e_mkf]
  (repeat' split) <;> first | rfl | simp_all
theorem loc_mki : ∀ x0 x1 , Local call (.mki x0 x1) := by
  intro x0 x1
  refine local_pure (fun vs ts ls h ls2 h2 => ?_) rfl
  simp only [evO, e_mki]
  (repeat' split) <;> first | rfl | simp_all
theorem loc_fa : ∀ x0 x1 , Local call (.fa x0 x1) := by
  intro x0 x1
  refine local_pure (fun vs ts ls h ls2 h2 => ?_) rfl
  simp only [evO, e_fa]
  (repeat' split) <;> first | rfl | simp_all
theorem loc_ia : ∀ x0 x1 x2 , Local call (.ia x0 x1 x2) := by
  intro x0 x1 x2
  refine local_pure (fun vs ts ls h ls2 h2 => ?_) rfl
  simp only [evO, e_ia, Bool.cond_eq_ite]
  (repeat' split) <;> first | rfl | simp_all
theorem loc_iaA : ∀ x0 x1 x2 x3 , Local call (.iaA x0 x1 x2 x3) := by
  intro x0 x1 x2 x3
  refine local_pure (fun vs ts ls h ls2 h2 => ?_) rfl
  simp only [evO, e_iaA, Bool.cond_eq_ite]
  (repeat' split) <;> first | rfl | simp_all
theorem loc_usd : ∀ x0 , Local call (.usd x0) := by
  intro x0
  refine local_pure (fun vs ts ls h ls2 h2 => ?_) rfl
  simp only [evO, e_usd]
  (repeat' split) <;> first | rfl | simp_all
theorem loc_uss : ∀ x0 x1 , Local call (.uss x0 x1) := by
  intro x0 x1
  refine local_pure (fun vs ts ls h ls2 h2 => ?_) rfl
  simp only [evO, e_uss]
  (repeat' split) <;> first | rfl | simp_all
theorem loc_no : ∀ (_ : Unit), Local call (.no ) := by
  intro _
  refine local_pure (fun vs ts ls h ls2 h2 => ?_) rfl
  simp only [evO, e_no]
  (repeat' split) <;> first | rfl | simp_all
theorem loc_b2s : ∀ x0, Local call (.b2s x0) := by
  intro x0
  refine local_read (fun vs ts ls h ls2 => ?_) rfl
  simp only [evO, e_b2s]
  (repeat' split) <;> first | rfl | simp_all
theorem loc_lenM : ∀ x0, Local call (.lenM x0) := by
  intro x0
  refine local_read (fun vs ts ls h ls2 => ?_) rfl
  simp only [evO, e_lenM]
  (repeat' split) <;> first | rfl | simp_all
theorem loc_asub : ∀ x0 x1 x2 x3 x4, Local call (.asub x0 x1 x2 x3 x4) := by
  intro x0 x1 x2 x3 x4
  refine local_read (fun vs ts ls h ls2 => ?_) rfl
  simp only [evO, e_asub, Bool.cond_eq_ite]
  (repeat' split) <;> first | rfl | simp_all
theorem loc_ld : ∀ x0 x1 x2, Local call (.ld x0 x1 x2) := by
  intro x0 x1 x2
  refine local_read (fun vs ts ls h ls2 => ?_) rfl
  simp only [evO, e_ld]
  (repeat' split) <;> first | rfl | simp_all
theorem loc_look : ∀ x0 x1 x2 x3 x4, Local call (.look x0 x1 x2 x3 x4) := by
  intro x0 x1 x2 x3 x4
  refine local_read (fun vs ts ls h ls2 => ?_) rfl
  simp only [evO, e_look, Bool.cond_eq_ite]
  (repeat' split) <;> first | rfl | simp_all
theorem loc_s2b : ∀ x0, Local call (.s2b x0) := by
  intro x0
  refine local_heap (fun vs ts ls h ls2 => ?_) rfl
  simp only [evO, e_s2b, Bool.cond_eq_ite]
  (repeat' split) <;> first | rfl | simp_all
theorem loc_hal : ∀ x0, Local call (.hal x0) := by
  intro x0
  refine local_heap (fun vs ts ls h ls2 => ?_) rfl
  simp only [evO, e_hal]
  (repeat' split) <;> first | rfl | simp_all
theorem loc_hbx : ∀ x0, Local call (.hbx x0) := by
  intro x0
  refine local_heap (fun vs ts ls h ls2 => ?_) rfl
  simp only [evO, e_hbx]
  (repeat' split) <;> first | rfl | simp_all
theorem loc_hbs : ∀ x0 x1 x2 x3, Local call (.hbs x0 x1 x2 x3) := by
  intro x0 x1 x2 x3
  refine local_heap (fun vs ts ls h ls2 => ?_) rfl
  simp only [evO, e_hbs, Bool.cond_eq_ite]
  (repeat' split) <;> first | rfl | simp_all
theorem loc_mks : ∀ x0 x1 x2 x3 x4, Local call (.mks x0 x1 x2 x3 x4) := by
  intro x0 x1 x2 x3 x4
  refine local_heap (fun vs ts ls h ls2 => ?_) rfl
  simp only [evO, e_mks, Bool.cond_eq_ite]
  (repeat' split) <;> first | rfl | simp_all
theorem loc_st : ∀ x0 x1 x2, Local call (.st x0 x1 x2) := by
  intro x0 x1 x2
  refine local_heap (fun vs ts ls h ls2 => ?_) rfl
  simp only [evO, e_st, Bool.cond_eq_ite]
  (repeat' split) <;> first | rfl | simp_all
theorem loc_app : ∀ x0 x1 x2 x3, Local call (.app x0 x1 x2 x3) := by
  intro x0 x1 x2 x3
  refine local_heap (fun vs ts ls h ls2 => ?_) rfl
  simp only [evO, e_app]
  (repeat' split) <;> first | rfl | simp_all
theorem loc_appS : ∀ x0 x1 x2, Local call (.appS x0 x1 x2) := by
  intro x0 x1 x2
  refine local_heap (fun vs ts ls h ls2 => ?_) rfl
  simp only [evO, e_appS]
  (repeat' split) <;> first | rfl | simp_all
theorem loc_appM : ∀ x0 x1 x2 x3 x4, Local call (.appM x0 x1 x2 x3 x4) := by
  intro x0 x1 x2 x3 x4
  refine local_heap (fun vs ts ls h ls2 => ?_) rfl
  simp only [evO, e_appM]
  (repeat' split) <;> first | rfl | simp_all
theorem loc_cpy : ∀ x0 x1 x2, Local call (.cpy x0 x1 x2) := by
  intro x0 x1 x2
  refine local_heap (fun vs ts ls h ls2 => ?_) rfl
  simp only [evO, e_cpy, Bool.cond_eq_ite]
  (repeat' split) <;> first | rfl | simp_all
theorem loc_cpyS : ∀ x0 x1, Local call (.cpyS x0 x1) := by
  intro x0 x1
  refine local_heap (fun vs ts ls h ls2 => ?_) rfl
  simp only [evO, e_cpyS, Bool.cond_eq_ite]
  (repeat' split) <;> first | rfl | simp_all
theorem loc_clr : ∀ x0 x1 x2, Local call (.clr x0 x1 x2) := by
  intro x0 x1 x2
  refine local_heap (fun vs ts ls h ls2 => ?_) rfl
  simp only [evO, e_clr, Bool.cond_eq_ite]
  (repeat' split) <;> first | rfl | simp_all
theorem loc_mkm : ∀ (_ : Unit), Local call (.mkm ) := by
  intro _
  refine local_heap (fun vs ts ls h ls2 => ?_) rfl
  simp only [evO, e_mkm]
  (repeat' split) <;> first | rfl | simp_all
theorem loc_mup : ∀ x0 x1 x2 x3, Local call (.mup x0 x1 x2 x3) := by
  intro x0 x1 x2 x3
  refine local_heap (fun vs ts ls h ls2 => ?_) rfl
  simp only [evO, e_mup, Bool.cond_eq_ite]
  (repeat' split) <;> first | rfl | simp_all
theorem loc_mdel : ∀ x0 x1 x2, Local call (.mdel x0 x1 x2) := by
  intro x0 x1 x2
  refine local_heap (fun vs ts ls h ls2 => ?_) rfl
  simp only [evO, e_mdel, Bool.cond_eq_ite]
  (repeat' split) <;> first | rfl | simp_all
theorem loc_mclr : ∀ x0, Local call (.mclr x0) := by
  intro x0
  refine local_heap (fun vs ts ls h ls2 => ?_) rfl
  simp only [evO, e_mclr]
  (repeat' split) <;> first | rfl | simp_all
theorem loc_call : ∀ x0 x1, Local call (.call x0 x1) := by
  intro x0 x1
  refine local_heap (fun vs ts ls h ls2 => ?_) rfl
  simp only [evO, e_call]
  (repeat' split) <;> first | rfl | simp_all
theorem loc_callv : ∀ x0 x1, Local call (.callv x0 x1) := by
  intro x0 x1
  refine local_heap (fun vs ts ls h ls2 => ?_) rfl
  simp only [evO, e_callv]
  (repeat' split) <;> first | rfl | simp_all
theorem loc_lfa : ∀ x0 x1 x2, Local call (.lfa x0 x1 x2) := by
  intro x0 x1 x2
  refine local_slot x0 (fun vs ts ls h ls2 h2 hs => ?_) rfl
  simp only [evO, e_lfa, hs]
  (repeat' split) <;> first | rfl | simp_all
theorem loc_lia : ∀ x0 x1 x2 x3 x4, Local call (.lia x0 x1 x2 x3 x4) := by
  intro x0 x1 x2 x3 x4
  refine local_slot x0 (fun vs ts ls h ls2 h2 hs => ?_) rfl
  simp only [evO, e_lia, hs, Bool.cond_eq_ite]
  (repeat' split) <;> first | rfl | simp_all
theorem loc_lld : ∀ x0 x1 x2 x3, Local call (.lld x0 x1 x2 x3) := by
  intro x0 x1 x2 x3
  refine local_slot x0 (fun vs ts ls h ls2 h2 hs => ?_) rfl
  simp only [evO, e_lld, hs]
  (repeat' split) <;> first | rfl | simp_all
theorem loc_lsub : ∀ x0 x1 x2 x3 x4 x5, Local call (.lsub x0 x1 x2 x3 x4 x5) := by
  intro x0 x1 x2 x3 x4 x5
  refine local_slot x0 (fun vs ts ls h ls2 h2 hs => ?_) rfl
  simp only [evO, e_lsub, hs]
  (repeat' split) <;> first | rfl | simp_all
theorem loc_lb2s : ∀ x0 x1, Local call (.lb2s x0 x1) := by
  intro x0 x1
  refine local_slot x0 (fun vs ts ls h ls2 h2 hs => ?_) rfl
  simp only [evO, e_lb2s, hs]
  (repeat' split) <;> first | rfl | simp_all
theorem loc_appL : ∀ x0 x1 x2 x3 x4, Local call (.appL x0 x1 x2 x3 x4) := by
  intro x0 x1 x2 x3 x4
  refine local_slotH x1 (fun vs ts ls h ls2 hs => ?_) rfl
  simp only [evO, e_appL, hs]
  (repeat' split) <;> first | rfl | simp_all
theorem loc_lal : ∀ x0 x1, Local call (.lal x0 x1) := by
  intro x0 x1
  exact local_slotW x0 (fun _ _ _ => some (undef, x1)) (fun vs ts ls h => rfl) rfl
theorem loc_lbx : ∀ x0 x1, Local call (.lbx x0 x1) := by
  intro x0 x1
  refine local_slotW x0 (fun vs ts _ => match (getX vs ts x1).cs? with | some cs => some (undef, cs) | none => none) (fun vs ts ls h => ?_) rfl
  simp only [evO, e_lbx]
  (repeat' split) <;> first | rfl | simp_all [Rs.ofS]
theorem loc_lbs : ∀ x0 x1 x2 x3 x4, Local call (.lbs x0 x1 x2 x3 x4) := by
  intro x0 x1 x2 x3 x4
  refine local_slotW x0 (fun vs ts _ => match fillAll vs ts (vrep x1 x3) x4 with | some cs => bif Nat.beq (vlen cs 0) (x1 * x2) then some (.lsl 0 x1, cs) else none | none => none) (fun vs ts ls h => ?_) rfl
  simp only [evO, e_lbs, Bool.cond_eq_ite]
  (repeat' split) <;> first | rfl | simp_all
theorem loc_lst : ∀ x0 x1 x2 x3, Local call (.lst x0 x1 x2 x3) := by
  intro x0 x1 x2 x3
  refine local_slotW x0 (fun vs ts sl => match place ts x1, sl with
    | some p, some cs => match (getX vs ts x2).cs? with
      | some new => bif Nat.beq (vlen new 0) x3 then (match wrt cs p new with | some cs => some (undef, cs) | none => none) else none
      | none => none
    | _, _ => none) (fun vs ts ls h => ?_) rfl
  simp only [evO, e_lst, Bool.cond_eq_ite]
  (repeat' split) <;> first | rfl | simp_all
theorem evO_local : ∀ o : O, Local call o
  | .mv x0 => loc_mv x0
  | .pick x0 x1 x2 => loc_pick x0 x1 x2
  | .un x0 x1 => loc_un x0 x1
  | .bin x0 x1 x2 => loc_bin x0 x1 x2
  | .eqv x0 x1 x2 x3 => loc_eqv x0 x1 x2 x3
  | .cvI x0 x1 => loc_cvI x0 x1
  | .same x0 => loc_same x0
  | .i2s x0 => loc_i2s x0
  | .ext x0 x1 => loc_ext x0 x1
  | .fld x0 x1 x2 x3 => loc_fld x0 x1 x2 x3
  | .idx x0 x1 x2 x3 x4 => loc_idx x0 x1 x2 x3 x4
  | .sidx x0 x1 => loc_sidx x0 x1
  | .bld x0 x1 => loc_bld x0 x1
  | .lenS x0 => loc_lenS x0
  | .lenL x0 => loc_lenL x0
  | .lenA x0 => loc_lenA x0
  | .capL x0 => loc_capL x0
  | .mnx x0 x1 => loc_mnx x0 x1
  | .sub x0 x1 x2 x3 x4 => loc_sub x0 x1 x2 x3 x4
  | .ssub x0 x1 x2 => loc_ssub x0 x1 x2
  | .nilc x0 => loc_nilc x0
  | .mkf x0 x1 x2 => loc_mkf x0 x1 x2
  | .mki x0 x1 => loc_mki x0 x1
  | .fa x0 x1 => loc_fa x0 x1
  | .ia x0 x1 x2 => loc_ia x0 x1 x2
  | .iaA x0 x1 x2 x3 => loc_iaA x0 x1 x2 x3
  | .usd x0 => loc_usd x0
  | .uss x0 x1 => loc_uss x0 x1
  | .no  => loc_no ()
  | .b2s x0 => loc_b2s x0
  | .lenM x0 => loc_lenM x0
  | .asub x0 x1 x2 x3 x4 => loc_asub x0 x1 x2 x3 x4
  | .ld x0 x1 x2 => loc_ld x0 x1 x2
  | .look x0 x1 x2 x3 x4 => loc_look x0 x1 x2 x3 x4
  | .s2b x0 => loc_s2b x0
  | .hal x0 => loc_hal x0
  | .hbx x0 => loc_hbx x0
  | .hbs x0 x1 x2 x3 => loc_hbs x0 x1 x2 x3
  | .mks x0 x1 x2 x3 x4 => loc_mks x0 x1 x2 x3 x4
  | .st x0 x1 x2 => loc_st x0 x1 x2
  | .app x0 x1 x2 x3 => loc_app x0 x1 x2 x3
  | .appS x0 x1 x2 => loc_appS x0 x1 x2
  | .appM x0 x1 x2 x3 x4 => loc_appM x0 x1 x2 x3 x4
  | .cpy x0 x1 x2 => loc_cpy x0 x1 x2
  | .cpyS x0 x1 => loc_cpyS x0 x1
  | .clr x0 x1 x2 => loc_clr x0 x1 x2
  | .mkm  => loc_mkm ()
  | .mup x0 x1 x2 x3 => loc_mup x0 x1 x2 x3
  | .mdel x0 x1 x2 => loc_mdel x0 x1 x2
  | .mclr x0 => loc_mclr x0
  | .call x0 x1 => loc_call x0 x1
  | .callv x0 x1 => loc_callv x0 x1
  | .lfa x0 x1 x2 => loc_lfa x0 x1 x2
  | .lia x0 x1 x2 x3 x4 => loc_lia x0 x1 x2 x3 x4
  | .lld x0 x1 x2 x3 => loc_lld x0 x1 x2 x3
  | .lsub x0 x1 x2 x3 x4 x5 => loc_lsub x0 x1 x2 x3 x4 x5
  | .lb2s x0 x1 => loc_lb2s x0 x1
  | .lal x0 x1 => loc_lal x0 x1
  | .lbx x0 x1 => loc_lbx x0 x1
  | .lbs x0 x1 x2 x3 x4 => loc_lbs x0 x1 x2 x3 x4
  | .lst x0 x1 x2 x3 => loc_lst x0 x1 x2 x3
  | .appL x0 x1 x2 x3 x4 => loc_appL x0 x1 x2 x3 x4
end Am
namespace Am
open Go
variable {P : Program} {T : TT} {call : CallT} {μ : Mp}

def stF (tr : List St) (e : St) (i : Nat) : St := match stAt tr i with
  | some s => s
  | none => e
structure StepR (call : CallT) (ro : RO) (s s' : St) : Prop where
  ts : s'.ts = s.v :: s.ts
  vs : s'.vs = setD s.vs ro.d s.v
  ev : (wantedG s.ts ro.g = true ∧ evO call s.vs s.ts s.ls s.h ro.o = .ok s.v s'.ls s'.h) ∨ (wantedG s.ts ro.g = false ∧ s.v = undef ∧ s'.ls = s.ls ∧ s'.h = s.h)
theorem TR.cons_ok {s : St} {t : TR} {tr : List St} {vs ts : List V} {ls : Ls} {h : H} (e : TR.cons s t = .ok tr vs ts ls h) : ∃ tr', t = .ok tr' vs ts ls h ∧ tr = s :: tr' := by
  cases t with
  | no => simp [TR.cons] at e
  | ok tr' a b c d => simp [TR.cons] at e; obtain ⟨rfl, rfl, rfl, rfl, rfl⟩ := e; exact ⟨_, rfl, rfl⟩
theorem evTr_spec : ∀ {l : List RO} {tr : List St} {vs ts : List V} {ls : Ls} {h : H} {e : St}, evTr call l vs ts ls h = .ok tr e.vs e.ts e.ls e.h →
    (stF tr e 0).vs = vs ∧ (stF tr e 0).ts = ts ∧ (stF tr e 0).ls = ls ∧ (stF tr e 0).h = h ∧ (∀ i ro, roAt l i = some ro → StepR call ro (stF tr e i) (stF tr e (i + 1))) ∧ (∀ i, roAt l i = none → stF tr e i = e) ∧
    ∀ i ro, roAt l i = some ro → stAt tr i = some (stF tr e i) := by
  intro l
  induction l with
  | nil =>
    intro tr vs ts ls h e he
    simp only [evTr, TR.ok.injEq] at he
    obtain ⟨rfl, h1, h2, h3, h4⟩ := he
    exact ⟨h1.symm, h2.symm, h3.symm, h4.symm, by simp [roAt], fun i _ => rfl, by simp [roAt]⟩
  | cons o l ih =>
    intro tr vs ts ls h e he
    simp only [evTr] at he
    have go : ∀ {v : V} {ls' : Ls} {h' : H}, TR.cons ⟨vs, ts, ls, h, v⟩ (evTr call l (setD vs o.d v) (v :: ts) ls' h') = .ok tr e.vs e.ts e.ls e.h →
        ((wantedG ts o.g = true ∧ evO call vs ts ls h o.o = .ok v ls' h') ∨ (wantedG ts o.g = false ∧ v = undef ∧ ls' = ls ∧ h' = h)) →
        (stF tr e 0).vs = vs ∧ (stF tr e 0).ts = ts ∧ (stF tr e 0).ls = ls ∧ (stF tr e 0).h = h ∧ (∀ i ro, roAt (o :: l) i = some ro → StepR call ro (stF tr e i) (stF tr e (i + 1))) ∧ (∀ i, roAt (o :: l) i = none → stF tr e i = e) ∧
        ∀ i ro, roAt (o :: l) i = some ro → stAt tr i = some (stF tr e i) := by
      intro v ls' h' hc hev
      obtain ⟨tr', h1, rfl⟩ := TR.cons_ok hc
      obtain ⟨a1, a2, a3, a4, a5, a6, a7⟩ := ih h1
      refine ⟨rfl, rfl, rfl, rfl, fun i ro hi => ?_, fun i hi => ?_, fun i ro hi => ?_⟩
      · cases i with
        | zero =>
          simp [roAt] at hi
          subst hi
          have e1 : stF (⟨vs, ts, ls, h, v⟩ :: tr') e (0 + 1) = stF tr' e 0 := rfl
          rw [e1]
          refine ⟨a2, a1, ?_⟩
          rw [a3, a4]
          exact hev
        | succ i => exact a5 i ro hi
      · cases i with
        | zero => simp [roAt] at hi
        | succ i => exact a6 i hi
      · cases i with
        | zero => rfl
        | succ i => exact a7 i ro hi
    cases hw : wantedG ts o.g with
    | true =>
      rw [hw] at he
      simp only [cond_true] at he
      split at he
      · rename_i v ls' h' hev
        exact go he (.inl ⟨hw, hev⟩)
      · cases he
    | false =>
      rw [hw] at he
      exact go he (.inr ⟨hw, rfl, rfl, rfl⟩)
theorem evTr_of : ∀ {l : List RO} {vs ts : List V} {ls : Ls} {h : H} {ex : Ex} {vs' ts' : List V} {ls' : Ls} {h' : H}, evOps call l vs ts ls h = .ok ex vs' ts' ls' h' → (∃ tr, evTr call l vs ts ls h = .ok tr vs' ts' ls' h') ∧ ex = .n := by
  intro l
  induction l with
  | nil => intro vs ts ls h ex vs' ts' ls' h' e; simp [evOps] at e; obtain ⟨rfl, rfl, rfl, rfl, rfl⟩ := e; exact ⟨⟨[], rfl⟩, rfl⟩
  | cons o l ih =>
    intro vs ts ls h ex vs' ts' ls' h' e
    simp only [evOps] at e
    simp only [evTr]
    cases hw : wantedG ts o.g with
    | true =>
      rw [hw] at e
      simp only [cond_true] at e ⊢
      split at e
      · rename_i v ls2 h2 hev
        obtain ⟨⟨tr, h1⟩, h3⟩ := ih e
        exact ⟨⟨⟨vs, ts, ls, h, v⟩ :: tr, by simp only [h1, TR.cons]⟩, h3⟩
      · cases e
    | false =>
      rw [hw] at e
      simp only [cond_false] at e ⊢
      obtain ⟨⟨tr, h1⟩, h3⟩ := ih e
      exact ⟨⟨⟨vs, ts, ls, h, undef⟩ :: tr, by simp only [h1, TR.cons]⟩, h3⟩
theorem heapAt_eq (tr : List St) (e : St) (i : Nat) : heapAt tr e.h i = (stF tr e i).h := by
  induction tr generalizing i with
  | nil => rfl
  | cons s tr ih => cases i with
    | zero => rfl
    | succ i => exact ih i

/-! Versions -/
def ext (L : Nat → Bool) (i : Nat) : Nat → Bool := fun k => L k || decide (k = i)
def pre (i : Nat) : Nat → Bool := fun k => decide (k < i)
theorem pre_succ (i : Nat) : pre (i + 1) = ext (pre i) i := by
  funext k
  simp only [pre, ext]
  by_cases h : k < i
  · simp [h]; omega
  · by_cases h2 : k = i
    · simp [h2]
    · simp [h, h2]; omega
theorem ver_ext {L w : Nat → Bool} {n i : Nat} (hi : i < n) (ha : w i = true → ∀ k < n, i < k → L k = true → w k = false) :
    lastP (fun k => ext L i k && w k) n = if w i then some i else lastP (fun k => L k && w k) n := by
  by_cases hw : w i = true
  · rw [if_pos hw]
    refine lastP_is hi (by simp [ext, hw]) fun j hj hjn => ?_
    simp only [ext]
    have : decide (j = i) = false := by simp; omega
    rw [this, Bool.or_false]
    cases hL : L j with
    | false => rfl
    | true => simp [ha hw j hjn hj hL]
  · rw [if_neg hw]
    refine lastP_congr fun k hk => ?_
    simp only [ext]
    by_cases e : k = i
    · subst e
      have : w k = false := by simpa using hw
      simp [this]
    · simp [e]
def wT (ops : Array Oper) (t k : Nat) : Bool := match ops[k]? with
  | some o => decide (o.dst = some t)
  | none => false
def wS (l : List RO) (s k : Nat) : Bool := decide ((fpAt l k).sl = some s) && (fpAt l k).sw
def wH (l : List RO) (k : Nat) : Bool := (fpAt l k).wh
def vV (ops : Array Oper) (tr : List St) (e : St) (L : Nat → Bool) (t j : Nat) : V := match lastP (fun k => L k && wT ops t k) ops.size with
  | none => lget (stF tr e 0).vs j
  | some k => (stF tr e k).v
def hV (ops : Array Oper) (l : List RO) (tr : List St) (e : St) (L : Nat → Bool) : H := match lastP (fun k => L k && wH l k) ops.size with
  | none => (stF tr e 0).h
  | some k => (stF tr e (k + 1)).h
def lV (ops : Array Oper) (l : List RO) (tr : List St) (e : St) (L : Nat → Bool) (s : Nat) : Option (List V) := match lastP (fun k => L k && wS l s k) ops.size with
  | none => slot (stF tr e 0).ls s
  | some k => slot (stF tr e (k + 1)).ls s
structure Reg (T : TT) (call : CallT) (kd : List Kd) (ops : Array Oper) (l : List RO) (tr : List St) (e : St) : Prop where
  comp : ∃ c', compR T kd ops.toList 0 ⟨[], []⟩ = some (l, c')
  st : ∀ i ro, roAt l i = some ro → StepR call ro (stF tr e i) (stF tr e (i + 1))
  ts0 : (stF tr e 0).ts = []
  hv : ∀ (t j : Nat), kd[t]? = some (Kd.v j) → j < (stF tr e 0).vs.length
  injV : ∀ (t t' j : Nat), kd[t]? = some (Kd.v j) → kd[t']? = some (Kd.v j) → t = t'
  injL : ∀ (t t' s : Nat) (a b : Bool), slotOf kd (some t) = some (s, a) → slotOf kd (some t') = some (s, b) → t = t'
section
variable {kd : List Kd} {ops : Array Oper} {l : List RO} {tr : List St} {e : St}
/-- the operation at a place -/
theorem Reg.at (R : Reg T call kd ops l tr e) {i : Nat} {o : Oper} (hi : ops[i]? = some o) :
    ∃ g d, roAt l i = some ⟨g, d, (compO T kd (cxAt T kd ops.toList ⟨[], []⟩ i) o).1⟩ ∧ grd i (cxAt T kd ops.toList ⟨[], []⟩ i) o.guard = some g ∧ dstV kd o.dst = some d ∧ dstOk kd o = true ∧
      rtOk d (compO T kd (cxAt T kd ops.toList ⟨[], []⟩ i) o).2 = true ∧ fpAt l i = fp (compO T kd (cxAt T kd ops.toList ⟨[], []⟩ i) o).1 := by
  obtain ⟨c', hc⟩ := R.comp
  obtain ⟨g, d, h1, h2, h3, h4, h5⟩ := compR_at hc i o (by simpa using hi)
  exact ⟨g, d, h1, by simpa using h2, h3, h4, h5, by simp [fpAt, h1]⟩
theorem lset_len (l : List V) (j : Nat) (v : V) : (lset l j v).length = l.length := by simp
theorem lset_get (l : List V) (j i : Nat) (v : V) (h : j < l.length) : lget (lset l j v) i = if i = j then v else lget l i := by
  rw [lget_eq, lget_eq]
  simp only [lset_eq]
  by_cases e : i = j
  · subst e; simp [h]
  · rw [if_neg e, List.getElem?_set_ne (fun h => e h.symm)]
theorem Reg.facts (R : Reg T call kd ops l tr e) : ∀ i, i ≤ ops.size →
    (stF tr e i).vs.length = (stF tr e 0).vs.length ∧ (∀ (t j : Nat), kd[t]? = some (Kd.v j) → lget (stF tr e i).vs j = vV ops tr e (pre i) t j) ∧
    (stF tr e i).h = hV ops l tr e (pre i) ∧ (∀ s, slot (stF tr e i).ls s = lV ops l tr e (pre i) s) ∧ (stF tr e i).ls.length = (stF tr e 0).ls.length ∧
    (stF tr e i).ts.length = i ∧ ∀ k < i, lget (stF tr e i).ts (i - 1 - k) = (stF tr e k).v := by
  intro i
  induction i with
  | zero =>
    intro _
    have np : ∀ w : Nat → Bool, lastP (fun k => pre 0 k && w k) ops.size = none := fun w => lastP_not fun k _ => by simp [pre]
    refine ⟨rfl, fun t j _ => ?_, ?_, fun s => ?_, rfl, by simp [R.ts0], fun k hk => by omega⟩
    · simp only [vV, np]
    · simp only [hV, np]
    · simp only [lV, np]
  | succ i ih =>
    intro hi
    obtain ⟨f1, f2, f3, f4, f5, f6, f7⟩ := ih (by omega)
    have hin : i < ops.size := by omega
    obtain ⟨o, ho⟩ : ∃ o, ops[i]? = some o := ⟨ops[i], by simp [hin]⟩
    obtain ⟨g, d, hro, hg, hd, hok, hrt, hfp⟩ := R.at ho
    have hst := R.st i _ hro
    have after : ∀ w : Nat → Bool, w i = true → ∀ k < ops.size, i < k → pre i k = true → w k = false := by
      intro w _ k _ h1 h2
      simp [pre] at h2
      omega
    have hvlen : (stF tr e (i + 1)).vs.length = (stF tr e 0).vs.length := by
      rw [hst.vs, ← f1]
      cases d with
      | none => rfl
      | some d => simp only [setD]; exact lset_len _ _ _
    have hloc : (stF tr e (i + 1)).ls.length = (stF tr e i).ls.length ∧ ((fpAt l i).wh = false → (stF tr e (i + 1)).h = (stF tr e i).h) ∧ ∀ s, wS l s i = false → slot (stF tr e (i + 1)).ls s = slot (stF tr e i).ls s := by
      rcases hst.ev with ⟨_, h2⟩ | ⟨_, _, h3, h4⟩
      · obtain ⟨a, b, c, _⟩ := evO_local _ _ _ _ _ _ _ _ h2
        rw [hfp]
        refine ⟨a, b, fun s hs => c s fun hh => ?_⟩
        simp only [wS, hfp] at hs
        simp [hh.1, hh.2] at hs
      · rw [h3, h4]; exact ⟨rfl, fun _ => rfl, fun _ _ => rfl⟩
    refine ⟨hvlen, fun t j hj => ?_, ?_, fun s => ?_, by rw [hloc.1, f5], by rw [hst.ts]; simp [f6], fun k hk => ?_⟩
    · unfold vV
      rw [pre_succ, ver_ext hin (after _)]
      have hjl := R.hv t j hj
      rw [hst.vs]
      by_cases hw : wT ops t i = true
      · rw [if_pos hw]
        simp only [wT, ho, decide_eq_true_eq] at hw
        have hdj : d = some j := by
          rw [hw] at hd
          simp only [dstV, hj, Option.some.injEq] at hd
          exact hd.symm
        subst hdj
        simp only [setD]
        rw [lset_get _ _ _ _ (by rw [f1]; exact hjl), if_pos rfl]
      · rw [if_neg hw]
        have : lget (setD (stF tr e i).vs d (stF tr e i).v) j = lget (stF tr e i).vs j := by
          cases d with
          | none => rfl
          | some d =>
            simp only [setD]
            by_cases hdl : d < (stF tr e i).vs.length
            · rw [lset_get _ _ _ _ hdl]
              split
              · rename_i e1
                subst e1
                exfalso
                apply hw
                simp only [wT, ho, decide_eq_true_eq]
                cases hdst : o.dst with
                | none => rw [hdst] at hd; simp [dstV] at hd
                | some u =>
                  rw [hdst] at hd
                  simp only [dstV] at hd
                  split at hd
                  · rename_i j' hj'
                    simp only [Option.some.injEq] at hd
                    subst hd
                    rw [R.injV u t _ hj' hj]
                  · simp at hd
                  · cases hd
              · rfl
            · have : lset (stF tr e i).vs d (stF tr e i).v = (stF tr e i).vs := by
                simp only [lset_eq]
                exact List.set_eq_of_length_le (by omega)
              rw [this]
        rw [this]
        exact f2 t j hj
    · unfold hV
      rw [pre_succ, ver_ext hin (after _)]
      by_cases hw : wH l i = true
      · rw [if_pos hw]
      · rw [if_neg hw]
        rw [hloc.2.1 (by simpa [wH] using hw)]
        exact f3
    · unfold lV
      rw [pre_succ, ver_ext hin (after _)]
      by_cases hw : wS l s i = true
      · rw [if_pos hw]
      · rw [if_neg hw]
        rw [hloc.2.2 s (by simpa using hw)]
        exact f4 s
    · rw [hst.ts]
      by_cases e1 : k = i
      · subst e1
        simp [lget]
      · rw [show i + 1 - 1 - k = (i - 1 - k) + 1 by omega]
        simp only [lget]
        exact f7 k (by omega)
end
end Am
namespace Am
open Go
variable {P : Program} {T : TT} {call : CallT} {μ : Mp}

structure CP (kd : List Kd) (c : Ctx) (dst : Option Nat) (x : O × Rt) : Prop where
  rt : ∀ s b, x.2 = some (s, b) → (fp x.1).sl = some s
  bx : ∀ s, boxed x.1 = some s → slotOf kd dst = some (s, false)
  ly : ∀ s, lays x.1 = some s → (∃ b, slotOf kd dst = some (s, b)) ∧ freeS s c.rt = true
theorem compO_cp (kd : List Kd) (c : Ctx) (o : Oper) : CP kd c o.dst (compO T kd c o) := by
  obtain ⟨d, op, ty, pos, af, g⟩ := o
  have no : CP kd c d (.no, none) := ⟨by simp, by simp [boxed], by simp [lays]⟩
  cases op
  case call cl =>
    obtain ⟨cal, args, at_⟩ := cl
    simp only [compO]
    have : ∀ o, callO T kd c ⟨cal, args, at_⟩ = o → boxed o = none ∧ lays o = none := by
      intro o h
      unfold callO at h
      simp only [Bool.cond_eq_ite] at h
      (repeat' split at h) <;> subst h <;> exact ⟨rfl, rfl⟩
    obtain ⟨h1, h2⟩ := this _ rfl
    exact ⟨by simp, by simp [h1], by simp [h2]⟩
  case convert src dst x =>
    simp only [compO]
    have : ∀ o, convO T src dst kd c x = o → boxed o = none ∧ lays o = none := by
      intro o h
      unfold convO at h
      simp only [Bool.cond_eq_ite] at h
      (repeat' split at h) <;> subst h <;> exact ⟨rfl, rfl⟩
    obtain ⟨h1, h2⟩ := this _ rfl
    exact ⟨by simp, by simp [h1], by simp [h2]⟩
  case binOp op t x y t' =>
    simp only [compO]
    have : ∀ q a b, boxed (eqO op q a b) = none ∧ lays (eqO op q a b) = none := by
      intro q a b
      unfold eqO
      split <;> exact ⟨rfl, rfl⟩
    repeat' split
    all_goals first
      | exact no
      | (refine ⟨?_, ?_, ?_⟩ <;> simp [this]; done)
      | (refine ⟨?_, ?_, ?_⟩ <;> simp [boxed, lays]; done)
  all_goals
    simp only [compO, o?, Bool.cond_eq_ite]
    repeat' split
    all_goals first
      | exact no
      | (refine ⟨?_, ?_, ?_⟩ <;> simp_all [fp, boxed, lays]; done)
theorem lays_fp {o : O} {s : Nat} (h : lays o = some s) : (fp o).sl = some s ∧ (fp o).sw = true := by
  cases o <;> simp_all [lays, fp]
theorem slot_before {o : O} {vs ts : List V} {ls ls' : Ls} {h h' : H} {v : V} (he : evO call vs ts ls h o = .ok v ls' h') {s : Nat} (hl : lays o ≠ some s) {cs' : List V} (hs : slot ls' s = some cs') : ∃ cs, slot ls s = some cs := by
  obtain ⟨_, _, c, _⟩ := evO_local _ _ _ _ _ _ _ _ he
  by_cases hw : (fp o).sl = some s ∧ (fp o).sw = true
  · cases o <;> simp_all [fp, lays]
    rename_i s' d x sz
    obtain rfl := hw
    simp only [evO, e_lst] at he
    split at he
    · rename_i p cs _ h2; exact ⟨cs, h2⟩
    · cases he
  · exact ⟨cs', by rw [← c s hw]; exact hs⟩
/-- an operation that is evaluated into a local box's name lays it -/
theorem dst_boxed {kd : List Kd} {c : Ctx} {o : Oper} {s : Nat} (hok : dstOk kd o = true) (hs : slotOf kd o.dst = some (s, false)) : o.guard = none ∧ ((compO T kd c o).1 = .no ∨ boxed (compO T kd c o).1 = some s) := by
  obtain ⟨d, op, ty, pos, af, g⟩ := o
  simp only [dstOk, hs, Bool.and_eq_true, Option.isNone_iff_eq_none] at hok
  refine ⟨hok.2, ?_⟩
  cases op <;> simp at hok <;> simp only [compO, o?, hs, Bool.cond_eq_ite] <;> (repeat' split) <;> simp_all [boxed]
/-! The state at any time of a region -/
def Cf (ops : Array Oper) (x y : Oper) (fx fy : Fp) : Prop :=
  (∃ d, x.dst = some d ∧ (d ∈ y.looksAt ops ∨ y.dst = some d)) ∨ (∃ d, y.dst = some d ∧ d ∈ x.looksAt ops) ∨
  (∃ s, fx.sl = some s ∧ fy.sl = some s ∧ (fx.sw = true ∨ fy.sw = true)) ∨ (fx.wh = true ∧ fy.wh = true)
section
variable {kd : List Kd} {ops : Array Oper} {l : List RO} {tr : List St} {e : St}
def Good (ops : Array Oper) (l : List RO) (L : Nat → Bool) (i : Nat) : Prop :=
  ∀ k < ops.size, k ≠ i → ∀ x y, ops[k]? = some x → ops[i]? = some y → Cf ops x y (fpAt l k) (fpAt l i) → L k = decide (k < i)
abbrev cxI (T : TT) (kd : List Kd) (ops : Array Oper) (i : Nat) : Ctx := cxAt T kd ops.toList ⟨[], []⟩ i
structure Body (T : TT) (kd : List Kd) (ops : Array Oper) (tr : List St) (e : St) (μ : Mp) (κ : Lm) (ls : Ls) (L : Nat → Bool) (a : Act) : Prop where
  vars : ∀ (t j : Nat), kd[t]? = some (Kd.v j) → VRel μ (vV ops tr e L t j) (a.tmps.getD t Go.undef)
  locs : ∀ (t s : Nat) cs, kd[t]? = some (Kd.l s) → slot ls s = some cs → ∃ c, κ s = some c ∧ a.tmps.getD t Go.undef = .pointer (some ⟨c, 0, none⟩)
  tmps : ∀ (k t : Nat) o, L k = true → ops[k]? = some o → o.dst = some t → dstT kd (some t) = some t → (∀ k' < ops.size, k < k' → L k' = true → wT ops t k' = false) →
    RR μ κ (compO T kd (cxI T kd ops k) o).2 none (stF tr e k).v (a.tmps.getD t Go.undef)
structure Inv (T : TT) (kd : List Kd) (ops : Array Oper) (l : List RO) (tr : List St) (e : St) (N : Nat) (μ0 : Mp) (h0 : H) (w0 : World) (w₀ : Nat) (L : Nat → Bool) (a : Act) (w : World) : Prop where
  ex : ∃ μ κ ls, HRel μ (hV ops l tr e L) w ∧ LRel μ κ ls (hV ops l tr e L) w w₀ ∧ w₀ ≤ w.heap.size ∧ FrW w₀ μ0 h0 w0 μ (hV ops l tr e L) w ∧ (∀ s, slot ls s = lV ops l tr e L s) ∧
    ls.length = (stF tr e 0).ls.length ∧ Body T kd ops tr e μ κ ls L a
  df : a.defers = []
  sz : a.tmps.size = N
theorem dstT_self {t u : Nat} (h : dstT kd (some t) = some u) : u = t := by
  simp only [dstT] at h
  split at h <;> simp at h <;> exact h.symm
theorem dstT_not {t : Nat} (h : dstT kd (some t) = some t) : ∀ s, slotOf kd (some t) ≠ some (s, false) := by
  intro s hs
  cases hk : kd[t]? with
  | none => simp [dstT, hk] at h
  | some k => cases k <;> simp [dstT, hk] at h <;> simp [slotOf, hk] at hs
/-- a temporary that is read is the one that was written last -/
theorem Body.read (R : Reg T call kd ops l tr e) {κ : Lm} {ls : Ls} {L : Nat → Bool} {a : Act} (B : Body T kd ops tr e μ κ ls L a) {i : Nat} {o : Oper} (hi : ops[i]? = some o) (G : Good ops l L i) (hnL : L i = false) {t d : Nat}
    (hl : t ∈ o.looksAt ops) (hf : findD t (cxI T kd ops i).ds 0 = some d) :
    RR μ κ (rtAt (cxI T kd ops i).rt d) none (lget (stF tr e i).ts d) (a.tmps.getD t Go.undef) := by
  have hin : i < ops.size := (Array.getElem?_eq_some_iff.1 hi).1
  have hlen : i ≤ ops.toList.length := by simp; omega
  obtain ⟨_, h2, h3⟩ := findD_some hf
  simp only [Nat.sub_zero] at h2 h3
  have hd : d < i := by
    have := (List.getElem?_eq_some_iff.1 h2).1
    rw [(cxAt_len hlen).1] at this
    simpa using this
  have hk : i - 1 - d < i := by omega
  have hkn : i - 1 - d < ops.size := by omega
  obtain ⟨ok, hok⟩ : ∃ ok, ops[i - 1 - d]? = some ok := ⟨ops[i - 1 - d], by simp [hkn]⟩
  have hb := cxAt_back (T := T) (kd := kd) (c := ⟨[], []⟩) hlen hk (by simpa using hok)
  rw [show i - 1 - (i - 1 - d) = d by omega] at hb
  rw [hb.1] at h2
  simp only [Option.some.injEq] at h2
  have hdst : ok.dst = some t ∧ dstT kd (some t) = some t := by
    cases hx : ok.dst with
    | none => rw [hx] at h2; simp [dstT] at h2
    | some u =>
      rw [hx] at h2
      have := dstT_self h2
      subst this
      exact ⟨rfl, h2⟩
  have hL : L (i - 1 - d) = true := by
    rw [G (i - 1 - d) hkn (by omega) ok o hok hi (.inl ⟨t, hdst.1, .inl hl⟩)]
    simp; omega
  have := B.tmps (i - 1 - d) t ok hL hok hdst.1 hdst.2 (fun k' hk' hlt hLk => by
    by_cases hw : wT ops t k' = true
    · exfalso
      obtain ⟨o', ho'⟩ : ∃ o', ops[k']? = some o' := ⟨ops[k'], by simp [hk']⟩
      simp only [wT, ho', decide_eq_true_eq] at hw
      by_cases hki : k' = i
      · subst hki
        rw [hnL] at hLk
        cases hLk
      · have := G k' hk' hki o' o ho' hi (.inl ⟨t, hw, .inl hl⟩)
        rw [hLk] at this
        have hki' : k' < i := by simpa using this.symm
        have hb' := cxAt_back (T := T) (kd := kd) (c := ⟨[], []⟩) hlen hki' (by simpa using ho')
        rw [hw, hdst.2] at hb'
        exact h3 (i - 1 - k') (by omega) hb'.1
    · simpa using hw)
  rw [rtAt_eq, hb.2]
  obtain ⟨_, _, _, _, _, _, f7⟩ := R.facts i (by omega)
  have e1 := f7 _ hk
  rw [show i - 1 - (i - 1 - d) = d by omega] at e1
  rw [e1]
  exact this
theorem getD_of {a : Act} {N t : Nat} (hN : a.tmps.size = N) (ht : t < N) : a.tmps[t]? = some (a.tmps.getD t Go.undef) := by
  have : t < a.tmps.size := by omega
  simp [this]
theorem kd_lt {t : Nat} {k : Kd} (h : kd[t]? = some k) : t < kd.length := (List.getElem?_eq_some_iff.1 h).1
theorem looks_tmp {o : Oper} {t : Nat} (h : Operand.tmp t ∈ o.op.operands) : t ∈ o.looksAt ops := by
  unfold Oper.looksAt
  exact List.mem_append_left _ (List.mem_filterMap.2 ⟨.tmp t, by simpa using h, rfl⟩)
/-- the operands are what they are in order -/
theorem Body.orel (R : Reg T call kd ops l tr e) {κ : Lm} {ls : Ls} {L : Nat → Bool} {a : Act} (B : Body T kd ops tr e μ κ ls L a) {i : Nat} {o : Oper} (hi : ops[i]? = some o) (G : Good ops l L i) (hnL : L i = false) :
    ORel kd (cxI T kd ops i) μ κ (stF tr e i).vs (stF tr e i).ts ls a.eval (· ∈ o.op.operands) := by
  have hin : i < ops.size := (Array.getElem?_eq_some_iff.1 hi).1
  refine ⟨fun x X hx hX => ?_, fun x s d p cs hx hX hp hs => ?_, fun x s d p n cs hx hX hp hs => ?_⟩
  · cases x with
    | tmp t =>
      have hlk := looks_tmp (ops := ops) hx
      simp only [opd] at hX
      split at hX
      · rename_i j hj
        cases hX
        simp only [getX, Act.eval]
        obtain ⟨_, f2, _⟩ := R.facts i (by omega)
        have hv := B.vars t j hj
        have : vV ops tr e L t j = vV ops tr e (pre i) t j := by
          unfold vV
          rw [lastP_congr (q := fun k => pre i k && wT ops t k) fun k hk => ?_]
          by_cases hw : wT ops t k = true
          · by_cases hki : k = i
            · subst hki; simp [hnL, pre]
            · obtain ⟨o', ho'⟩ : ∃ o', ops[k]? = some o' := ⟨ops[k], by simp [hk]⟩
              have hw' : o'.dst = some t := by simpa only [wT, ho', decide_eq_true_eq] using hw
              rw [G k hk hki o' o ho' hi (.inl ⟨t, hw', .inl hlk⟩)]
              rfl
          · have : wT ops t k = false := by simpa using hw
            simp [this]
        rw [this, ← f2 t j hj] at hv
        exact hv
      all_goals try (cases hX; done)
      all_goals
        split at hX
        · rename_i d hd
          split at hX
          · rename_i hrt
            cases hX
            have := B.read R hi G hnL hlk hd
            rw [hrt] at this
            simpa [RR, getX, Act.eval] using this
          · cases hX
        · cases hX
    | const v =>
      simp only [opd] at hX
      split at hX
      · rename_i x hx'
        cases hX
        exact ofVal_ok v hx' μ
      · cases hX
    | func f => cases hX; exact .f .nil .nil
    | global g => cases hX
  · cases x with
    | tmp t =>
      have hlk := looks_tmp (ops := ops) hx
      simp only [lpl] at hX
      split at hX
      · rename_i s' hs'
        simp at hX
        obtain ⟨rfl, rfl⟩ := hX
        simp [place] at hp
        subst hp
        exact B.locs t _ cs hs' hs
      all_goals try (cases hX; done)
      all_goals
        split at hX
        · rename_i d' hd
          split at hX
          · rename_i s' b hrt
            cases b <;> simp at hX
            obtain ⟨rfl, rfl⟩ := hX
            have := B.read R hi G hnL hlk hd
            rw [hrt] at this
            simp only [RR] at this
            simp only [place] at hp
            split at hp
            · rename_i q hq
              cases hp
              exact this _ hq
            · cases hp
          · cases hX
        · cases hX
    | const v => cases hX
    | func f => cases hX
    | global g => cases hX
  · cases x with
    | tmp t =>
      have hlk := looks_tmp (ops := ops) hx
      simp only [lpl] at hX
      split at hX
      · simp at hX
      all_goals try (cases hX; done)
      all_goals
        split at hX
        · rename_i d' hd
          split at hX
          · rename_i s' b hrt
            cases b <;> simp at hX
            obtain ⟨rfl, rfl⟩ := hX
            have := B.read R hi G hnL hlk hd
            rw [hrt] at this
            simp only [RR] at this
            exact this _ _ hp
          · cases hX
        · cases hX
    | const v => cases hX
    | func f => cases hX
    | global g => cases hX
/-- the guard is the same one -/
theorem Body.guard (R : Reg T call kd ops l tr e) {κ : Lm} {ls : Ls} {L : Nat → Bool} {a : Act} (B : Body T kd ops tr e μ κ ls L a) {i N : Nat} {o : Oper} (hi : ops[i]? = some o) (G : Good ops l L i) (hnL : L i = false)
    (hsz : a.tmps.size = N) (hN : kd.length ≤ N) {g : Option (Nat × Bool)} (hg : grd i (cxI T kd ops i) o.guard = some g) :
    Region.wanted o (yielded ops a.tmps) = wantedG (stF tr e i).ts g := by
  have hin : i < ops.size := (Array.getElem?_eq_some_iff.1 hi).1
  unfold Region.wanted
  cases hgd : o.guard with
  | none => rw [hgd] at hg; simp [grd] at hg; subst hg; rfl
  | some jw =>
    obtain ⟨j, wnt⟩ := jw
    rw [hgd] at hg
    simp only [grd] at hg
    cases hb : Nat.blt j i with
    | false => rw [hb] at hg; simp at hg
    | true =>
    rw [hb] at hg
    have hji : j < i := by simpa using hb
    simp only [cond_true] at hg
    split at hg
    · rename_i t ht
      split at hg
      · rename_i d hd hrt
        cases hbd : Nat.beq d (i - 1 - j) with
        | false => rw [hbd] at hg; simp at hg
        | true =>
        rw [hbd] at hg
        have hdj : d = i - 1 - j := by simpa [Nat.beq_eq] using hbd
        simp only [cond_true, Option.some.injEq] at hg
        subst hg
        have hjn : j < ops.size := by omega
        obtain ⟨oj, hoj⟩ : ∃ oj, ops[j]? = some oj := ⟨ops[j], by simp [hjn]⟩
        have hb' := cxAt_back (T := T) (kd := kd) (r := ops.toList) (c := ⟨[], []⟩) (i := i) (by simp; omega) hji (by simpa using hoj)
        rw [dsAt_eq, hb'.1] at ht
        simp only [Option.getD_some] at ht
        have hdst : oj.dst = some t ∧ dstT kd (some t) = some t := by
          cases hx : oj.dst with
          | none => rw [hx] at ht; simp [dstT] at ht
          | some u =>
            rw [hx] at ht
            have := dstT_self ht
            subst this
            exact ⟨rfl, ht⟩
        have hlk : t ∈ o.looksAt ops := by
          unfold Oper.looksAt
          exact List.mem_append_right _ (by simp [hgd, hoj, hdst.1])
        have hr := B.read R hi G hnL hlk hd
        rw [hdj, hrt] at hr
        simp only [RR] at hr
        have htk : t < N := by
          have := hdst.2
          simp only [dstT] at this
          cases hk : kd[t]? with
          | none => rw [hk] at this; cases this
          | some k => exact Nat.lt_of_lt_of_le (kd_lt hk) hN
        have hy : yielded ops a.tmps j = match a.tmps.getD t Go.undef with | .bool b => some b | _ => none := by
          unfold yielded
          simp only [hoj, Option.bind_some, hdst.1, getD_of hsz htk]
          cases a.tmps.getD t Go.undef <;> rfl
        simp only [hy, wantedG]
        generalize a.tmps.getD t Go.undef = y at hr
        generalize lget (stF tr e i).ts (i - 1 - j) = v at hr
        cases hr <;> try rfl
        rename_i x
        cases x <;> cases wnt <;> rfl
      · cases hg
    · cases hg
theorem RR.keep {μ μ' : Mp} {κ κ' : Lm} {rt : Rt} {v : V} {y : Value} (h : RR μ κ rt none v y) (e : Ext μ μ') (hk : ∀ s b, rt = some (s, b) → κ' s = κ s) : RR μ' κ' rt none v y := by
  unfold RR at *
  cases rt with
  | none => exact VRel.mono e h
  | some sb =>
    obtain ⟨s, b⟩ := sb
    cases b with
    | false => intro p hp; obtain ⟨c, h1, h2⟩ := h p hp; exact ⟨c, by rw [hk s _ rfl]; exact h1, h2⟩
    | true => intro p n hp; obtain ⟨c, q, k, h1, h2⟩ := h p n hp; exact ⟨c, q, k, by rw [hk s _ rfl]; exact h1, h2⟩
theorem freeS_not {s : Nat} {b : Bool} : ∀ {l : List Rt} {d : Nat}, l[d]? = some (some (s, b)) → freeS s l = false := by
  intro l
  induction l with
  | nil => intro d h; simp at h
  | cons x l ih =>
    intro d h
    cases d with
    | zero => simp at h; subst h; simp [freeS, Nat.beq_refl]
    | succ d =>
      simp at h
      cases x with
      | none => exact ih h
      | some p => obtain ⟨s', b'⟩ := p; simp [freeS, ih h]
theorem put_get {a : Act} {N : Nat} (hsz : a.tmps.size = N) (dst : Option Nat) (y : Value) (t : Nat) (ht : t < N) : (a.put dst y).tmps.getD t Go.undef = if dst = some t then y else a.tmps.getD t Go.undef := by
  cases dst with
  | none => simp [Act.put]
  | some d =>
    simp only [Act.put, Option.some.injEq]
    by_cases e : d = t
    · subst e
      have : d < a.tmps.size := by omega
      simp [this]
    · simp [e]
theorem put_size (a : Act) (dst : Option Nat) (y : Value) : (a.put dst y).tmps.size = a.tmps.size := by cases dst <;> simp [Act.put]
theorem put_defs (a : Act) (dst : Option Nat) (y : Value) : (a.put dst y).defers = a.defers := by cases dst <;> rfl

/-- one operation more -/
theorem Inv.put (R : Reg T call kd ops l tr e) {N : Nat} {μ0 : Mp} {h0 : H} {w0 : World} {w₀ : Nat} {L : Nat → Bool} {a : Act} {i : Nat} {o : Oper} (hi : ops[i]? = some o) (G : Good ops l L i) (hnL : L i = false) (hN : kd.length ≤ N)
    {μ : Mp} {κ : Lm} {ls : Ls} {w : World} (hF : FrW w₀ μ0 h0 w0 μ (hV ops l tr e L) w) (hll : ls.length = (stF tr e 0).ls.length) (hB : Body T kd ops tr e μ κ ls L a) (hdf : a.defers = []) (hsz : a.tmps.size = N)
    {μ' : Mp} {κ' : Lm} {ls' : Ls} {w' : World} {y : Value} (hH : HRel μ' (hV ops l tr e (ext L i)) w') (hL' : LRel μ' κ' ls' (hV ops l tr e (ext L i)) w' w₀) (hw : w₀ ≤ w'.heap.size) (hF' : FrW w₀ μ (hV ops l tr e L) w μ' (hV ops l tr e (ext L i)) w')
    (hls' : ∀ s, slot ls' s = lV ops l tr e (ext L i) s) (hll' : ls'.length = ls.length) (hlb : ∀ s cs, lays (compO T kd (cxI T kd ops i) o).1 ≠ some s → slot ls' s = some cs → ∃ cs, slot ls s = some cs)
    (hRR : RR μ' κ' (compO T kd (cxI T kd ops i) o).2 (boxed (compO T kd (cxI T kd ops i) o).1) (stF tr e i).v y) (hk : ∀ s, lays (compO T kd (cxI T kd ops i) o).1 ≠ some s → κ' s = κ s)
    (hun : ∀ s, slotOf kd o.dst = some (s, false) → boxed (compO T kd (cxI T kd ops i) o).1 = some s) :
    Inv T kd ops l tr e N μ0 h0 w0 w₀ (ext L i) (a.put o.dst y) w' := by
  have hin : i < ops.size := (Array.getElem?_eq_some_iff.1 hi).1
  obtain ⟨g, d, hro, hg, hd, hok, hrt, hfp⟩ := R.at hi
  have cp := compO_cp (T := T) kd (cxI T kd ops i) o
  have hput := fun t (ht : t < N) => put_get hsz o.dst y t ht
  refine ⟨⟨μ', κ', ls', hH, hL', hw, hF.trans hF', hls', hll'.trans hll, ⟨fun t j hj => ?_, fun t s cs hts hcs => ?_, fun k t ok hLk hok' hdst hdT hlast => ?_⟩⟩, by rw [put_defs]; exact hdf, by rw [put_size]; exact hsz⟩
  · rw [hput t (Nat.lt_of_lt_of_le (kd_lt hj) hN)]
    unfold vV
    rw [ver_ext hin (fun hwi k hk hik hLk => ?_)]
    · by_cases hdt : o.dst = some t
      · have : wT ops t i = true := by simp [wT, hi, hdt]
        rw [if_pos this, if_pos hdt]
        have hb : boxed (compO T kd (cxI T kd ops i) o).1 = none := by
          cases hbx : boxed (compO T kd (cxI T kd ops i) o).1 with
          | none => rfl
          | some s =>
            have := cp.bx s hbx
            rw [hdt] at this
            simp [slotOf, hj] at this
        have hr0 : (compO T kd (cxI T kd ops i) o).2 = none := by
          rw [hdt] at hd
          simp only [dstV, hj, Option.some.injEq] at hd
          subst hd
          cases hx : (compO T kd (cxI T kd ops i) o).2 with
          | none => rfl
          | some p => rw [show cxAt T kd ops.toList ⟨[], []⟩ i = cxI T kd ops i from rfl, hx] at hrt; simp [rtOk] at hrt
        rw [hb, hr0] at hRR
        exact hRR
      · have : ¬ wT ops t i = true := by simp [wT, hi, hdt]
        rw [if_neg this, if_neg hdt]
        exact (hB.vars t j hj).mono hF'.ext
    · by_cases hw2 : wT ops t k = true
      · exfalso
        obtain ⟨ok, hok'⟩ : ∃ ok, ops[k]? = some ok := ⟨ops[k], by simp [hk]⟩
        simp only [wT, hok', decide_eq_true_eq] at hw2
        simp only [wT, hi, decide_eq_true_eq] at hwi
        have := G k hk (by omega) ok o hok' hi (.inl ⟨t, hw2, .inr hwi⟩)
        rw [hLk] at this
        have : k < i := by simpa using this.symm
        omega
      · simpa using hw2
  · rw [hput t (Nat.lt_of_lt_of_le (kd_lt hts) hN)]
    have hst : slotOf kd (some t) = some (s, false) := by simp [slotOf, hts]
    by_cases hdt : o.dst = some t
    · rw [if_pos hdt]
      have hb := hun s (by rw [hdt]; exact hst)
      rw [hb] at hRR
      exact hRR
    · rw [if_neg hdt]
      have hly : lays (compO T kd (cxI T kd ops i) o).1 ≠ some s := by
        intro hl
        obtain ⟨⟨b, hb⟩, _⟩ := cp.ly s hl
        cases hx : o.dst with
        | none => rw [hx] at hb; simp [slotOf] at hb
        | some u =>
          rw [hx] at hb
          have := R.injL u t s b false hb hst
          subst this
          exact hdt hx
      obtain ⟨cs0, hcs0⟩ := hlb s cs hly hcs
      rw [hk s hly]
      exact hB.locs t s cs0 hts hcs0
  · have htN : t < N := by
      simp only [dstT] at hdT
      cases hk : kd[t]? with
      | none => rw [hk] at hdT; cases hdT
      | some k => exact Nat.lt_of_lt_of_le (kd_lt hk) hN
    have hkn : k < ops.size := (Array.getElem?_eq_some_iff.1 hok').1
    rw [hput t htN]
    by_cases hki : k = i
    · subst hki
      rw [hi] at hok'
      cases hok'
      rw [if_pos hdst]
      have hb : boxed (compO T kd (cxI T kd ops k) o).1 = none := by
        cases hbx : boxed (compO T kd (cxI T kd ops k) o).1 with
        | none => rfl
        | some s =>
          have := cp.bx s hbx
          rw [hdst] at this
          exact absurd this (dstT_not hdT s)
      rw [hb] at hRR
      exact hRR
    · have hL : L k = true := by
        simp only [ext, Bool.or_eq_true, decide_eq_true_eq] at hLk
        exact hLk.resolve_right hki
      by_cases hdt : o.dst = some t
      · exfalso
        have := G k hkn hki ok o hok' hi (.inl ⟨t, hdst, .inr hdt⟩)
        rw [hL] at this
        have hlt : k < i := by simpa using this.symm
        have := hlast i hin hlt (by simp [ext])
        simp [wT, hi, hdt] at this
      · rw [if_neg hdt]
        refine RR.keep (hB.tmps k t ok hL hok' hdst hdT fun k' hk' hlt hL' => hlast k' hk' hlt (by simp [ext, hL'])) hF'.ext fun s b hs => hk s fun hl => ?_
        obtain ⟨hf1, hf2⟩ := lays_fp hl
        obtain ⟨_, hfree⟩ := cp.ly s hl
        have cpk := compO_cp (T := T) kd (cxI T kd ops k) ok
        obtain ⟨_, _, _, _, _, _, _, hfpk⟩ := R.at hok'
        have := G k hkn hki ok o hok' hi (.inr (.inr (.inl ⟨s, by rw [hfpk]; exact cpk.rt s b hs, by rw [hfp]; exact hf1, .inr (by rw [hfp]; exact hf2)⟩)))
        rw [hL] at this
        have hlt : k < i := by simpa using this.symm
        have hb' := cxAt_back (T := T) (kd := kd) (r := ops.toList) (c := ⟨[], []⟩) (i := i) (by simp; omega) hlt (by simpa using hok')
        have h2 := hb'.2
        rw [show cxAt T kd ops.toList ⟨[], []⟩ k = cxI T kd ops k from rfl, hs] at h2
        rw [freeS_not h2] at hfree
        cases hfree
end
end Am
namespace Am
open Go
variable {P : Program} {T : TT} {call : CallT} {μ : Mp}
section
variable {kd : List Kd} {ops : Array Oper} {l : List RO} {tr : List St} {e : St}
theorem ver_now {L w : Nat → Bool} {n i : Nat} (hnL : L i = false) (h : ∀ k < n, k ≠ i → w k = true → L k = decide (k < i)) : lastP (fun k => L k && w k) n = lastP (fun k => pre i k && w k) n := by
  refine lastP_congr fun k hk => ?_
  by_cases hki : k = i
  · subst hki; simp [hnL, pre]
  · cases hw : w k with
    | false => simp
    | true => rw [h k hk hki hw]; rfl
theorem hV_ext {L : Nat → Bool} {i : Nat} {o : Oper} (hi : ops[i]? = some o) (G : Good ops l L i) : hV ops l tr e (ext L i) = if wH l i then (stF tr e (i + 1)).h else hV ops l tr e L := by
  have hin : i < ops.size := (Array.getElem?_eq_some_iff.1 hi).1
  unfold hV
  rw [ver_ext hin (fun hwi k hk hik hLk => ?_)]
  · cases wH l i <;> rfl
  · cases hw : wH l k with
    | false => rfl
    | true =>
      have := G k hk (by omega) ops[k] o (by simp [hk]) hi (.inr (.inr (.inr ⟨hw, hwi⟩)))
      rw [hLk] at this
      have : k < i := by simpa using this.symm
      omega
theorem hV_now (R : Reg T call kd ops l tr e) {L : Nat → Bool} {i : Nat} {o : Oper} (hi : ops[i]? = some o) (G : Good ops l L i) (hnL : L i = false) (hw : wH l i = true) : hV ops l tr e L = (stF tr e i).h := by
  have hin : i < ops.size := (Array.getElem?_eq_some_iff.1 hi).1
  obtain ⟨_, _, f3, _⟩ := R.facts i (by omega)
  rw [f3]
  unfold hV
  rw [ver_now (w := wH l) hnL fun k hk hki hwk => G k hk hki ops[k] o (by simp [hk]) hi (.inr (.inr (.inr ⟨hwk, hw⟩)))]
theorem wS_iff {s k : Nat} : wS l s k = true ↔ (fpAt l k).sl = some s ∧ (fpAt l k).sw = true := by simp [wS]
theorem lV_ext {L : Nat → Bool} {i : Nat} {o : Oper} (hi : ops[i]? = some o) (G : Good ops l L i) (s : Nat) : lV ops l tr e (ext L i) s = if (fpAt l i).sl = some s ∧ (fpAt l i).sw = true then slot (stF tr e (i + 1)).ls s else lV ops l tr e L s := by
  have hin : i < ops.size := (Array.getElem?_eq_some_iff.1 hi).1
  unfold lV
  rw [ver_ext hin (fun hwi k hk hik hLk => ?_)]
  · by_cases h : wS l s i = true
    · rw [if_pos h, if_pos (wS_iff.1 h)]
    · rw [if_neg h, if_neg (fun h' => h (wS_iff.2 h'))]
  · cases hw : wS l s k with
    | false => rfl
    | true =>
      have h1 := wS_iff.1 hw
      have h2 := wS_iff.1 hwi
      have := G k hk (by omega) ops[k] o (by simp [hk]) hi (.inr (.inr (.inl ⟨s, h1.1, h2.1, .inl h1.2⟩)))
      rw [hLk] at this
      have : k < i := by simpa using this.symm
      omega
theorem lV_now (R : Reg T call kd ops l tr e) {L : Nat → Bool} {i : Nat} {o : Oper} (hi : ops[i]? = some o) (G : Good ops l L i) (hnL : L i = false) {s : Nat} (hs : (fpAt l i).sl = some s) : lV ops l tr e L s = slot (stF tr e i).ls s := by
  have hin : i < ops.size := (Array.getElem?_eq_some_iff.1 hi).1
  obtain ⟨_, _, _, f4, _⟩ := R.facts i (by omega)
  rw [f4]
  unfold lV
  rw [ver_now (w := wS l s) hnL fun k hk hki hwk => G k hk hki ops[k] o (by simp [hk]) hi (.inr (.inr (.inl ⟨s, (wS_iff.1 hwk).1, hs, .inl (wS_iff.1 hwk).2⟩)))]
theorem fp_read {o : O} (h1 : (fp o).rh = true) (h2 : (fp o).wh = false) : (fp o).sw = false := by cases o <;> simp_all [fp]

theorem Inv.step (hT : TOk P T) (hcall : CallOK P call) (R : Reg T call kd ops l tr e) {N : Nat} {μ0 : Mp} {h0 : H} {w0 : World} {w₀ : Nat} {L : Nat → Bool} {a : Act} {w : World} {i : Nat} {o : Oper} (hi : ops[i]? = some o)
    (G : Good ops l L i) (hnL : L i = false) (hN : kd.length ≤ N)
    (hf : (fpAt l i).rh = true → (fpAt l i).wh = false → ∀ ro, roAt l i = some ro → wantedG (stF tr e i).ts ro.g = true → ∃ ls' h', evO call (stF tr e i).vs (stF tr e i).ts (stF tr e i).ls (hV ops l tr e L) ro.o = .ok (stF tr e i).v ls' h')
    (hI : Inv T kd ops l tr e N μ0 h0 w0 w₀ L a w) {K : Act → World → Prop} (hK : ∀ a w, Inv T kd ops l tr e N μ0 h0 w0 w₀ (ext L i) a w → K a w) {Q : Exit → Act → World → Prop} (hQ : LetsOutT Q) : wpOp P ops Q i K a w := by
  have hin : i < ops.size := (Array.getElem?_eq_some_iff.1 hi).1
  obtain ⟨⟨μ, κ, ls, hH, hL, hw0, hF, hls, hll, hB⟩, hdf, hsz⟩ := hI
  obtain ⟨g, d, hro, hg, hd, hok, hrt, hfp⟩ := R.at hi
  have cp := compO_cp (T := T) kd (cxI T kd ops i) o
  have hst := R.st i _ hro
  have hgd := hB.guard R hi G hnL hsz hN hg
  obtain ⟨_, _, _, _, f5, _⟩ := R.facts i (by omega)
  unfold wpOp
  simp only [hi]
  rw [hgd]
  rcases hst.ev with ⟨hwt, hev⟩ | ⟨hwt, hv, hls1, hh1⟩
  · simp only at hwt hev
    rw [if_pos hwt]
    -- here and now
    have now : ∃ ls', evO call (stF tr e i).vs (stF tr e i).ts ls (hV ops l tr e L) (compO T kd (cxI T kd ops i) o).1 = .ok (stF tr e i).v ls' (hV ops l tr e (ext L i)) ∧ ls'.length = ls.length ∧ ∀ s, slot ls' s = lV ops l tr e (ext L i) s := by
      have hsl : ∀ s, (fp (compO T kd (cxI T kd ops i) o).1).sl = some s → slot ls s = slot (stF tr e i).ls s := fun s hs => by
        rw [hls, lV_now R hi G hnL (by rw [hfp]; exact hs)]
      by_cases hr : (fpAt l i).rh = true ∧ (fpAt l i).wh = false
      · obtain ⟨ls1, h1, he1⟩ := hf hr.1 hr.2 _ hro hwt
        simp only at he1
        obtain ⟨_, _, _, loc⟩ := evO_local _ _ _ _ _ _ _ _ he1
        obtain ⟨ls', q1, q2, q3⟩ := loc ls (hV ops l tr e L) hsl (by rw [hll, f5]) (fun _ => rfl)
        have hwh : (fp (compO T kd (cxI T kd ops i) o).1).wh = false := by rw [← hfp]; exact hr.2
        have hsw := fp_read (o := (compO T kd (cxI T kd ops i) o).1) (by rw [← hfp]; exact hr.1) hwh
        rw [hwh] at q1
        refine ⟨ls', ?_, q2, fun s => ?_⟩
        · rw [hV_ext hi G, wH, hr.2]
          exact q1
        · rw [q3, lV_ext hi G, hfp, hsw]
          simp [hls]
      · obtain ⟨_, _, _, loc⟩ := evO_local _ _ _ _ _ _ _ _ hev
        obtain ⟨ls', q1, q2, q3⟩ := loc ls (hV ops l tr e L) hsl (by rw [hll, f5]) (fun hrh => hV_now R hi G hnL (by
          rw [← hfp] at hrh
          cases hx : (fpAt l i).wh with
          | true => exact hx
          | false => exact absurd ⟨hrh, hx⟩ hr))
        refine ⟨ls', ?_, q2, fun s => ?_⟩
        · rw [q1, hV_ext hi G, wH, hfp]
        · rw [q3, lV_ext hi G, hfp, hls]
    obtain ⟨ls', he, hl', hs'⟩ := now
    have hdoes := ok_all hcall o kd (cxI T kd ops i) μ κ _ _ ls _ w w₀ a.eval _ ls' _ ⟨hT, hB.orel R hi G hnL, hH, hL, hw0⟩ he
    refine .inl (hdoes.wp (fun y w' hres => ?_) hQ)
    obtain ⟨μ', κ', r1, r2, r3, r4, r5⟩ := hres
    refine hK _ _ (Inv.put R hi G hnL hN hF hll hB hdf hsz r1 r2 (Nat.le_trans hw0 r3.size) r3 hs' hl' (fun s cs hly hcs => slot_before he hly hcs) r4 r5 fun s hs => ?_)
    rcases (dst_boxed (T := T) (c := cxI T kd ops i) hok hs).2 with h | h
    · rw [h] at he; simp [evO, e_no] at he
    · exact h
  · simp only at hwt
    rw [if_neg (by rw [hwt]; simp)]
    have hgn : o.guard ≠ none := by
      intro hgn
      rw [hgn] at hg
      simp [grd] at hg
      subst hg
      simp [wantedG] at hwt
    have e1 : hV ops l tr e (ext L i) = hV ops l tr e L := by
      rw [hV_ext hi G]
      split
      · rename_i hwi; rw [hh1, hV_now R hi G hnL hwi]
      · rfl
    have e2 : ∀ s, lV ops l tr e (ext L i) s = lV ops l tr e L s := fun s => by
      rw [lV_ext hi G]
      split
      · rename_i hs; rw [hls1, lV_now R hi G hnL hs.1]
      · rfl
    refine hK _ _ (Inv.put (μ' := μ) (κ' := κ) (ls' := ls) R hi G hnL hN hF hll hB hdf hsz (by rw [e1]; exact hH) (by rw [e1]; exact hL) hw0 (by rw [e1]; exact FrW.refl _ _ _ _) (fun s => by rw [e2]; exact hls s) rfl (fun s cs _ h => ⟨cs, h⟩) ?_ (fun _ _ => rfl) fun s hs => ?_)
    · rw [hv]
      unfold RR
      cases hb : boxed (compO T kd (cxI T kd ops i) o).1 with
      | some s => exact absurd (dst_boxed (T := T) (c := cxI T kd ops i) hok (cp.bx s hb)).1 hgn
      | none =>
        cases hr : (compO T kd (cxI T kd ops i) o).2 with
        | none => exact VRel.undef _
        | some sb =>
          obtain ⟨s, b⟩ := sb
          cases b with
          | false => intro p hp; cases hp
          | true => intro p n hp; cases hp
    · exact absurd (dst_boxed (T := T) (c := cxI T kd ops i) hok hs).1 hgn
end
end Am
