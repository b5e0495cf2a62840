/- What the listed variables give, and one world that holds them. -/
import Derived.Test.YtonkmclifimcmaaGreatDoorKWx
import Derived.Test.YtonkmclifimcmaaGreatDoorAm3
import Derived.Test.YtonkmclifimcmaaGreatDoorCards
import Derived.Test.YtonkmclifimcmaaGreatDoorTie
namespace Go.Proofs.YtonkmclifimcmaaGreatDoor
open Go.ChangeShapes Go.WideShapes Go.ChangeAt Go.RowKit

theorem own : ownKnob Tryz.prog.godebug = none := by kernel_rfl
theorem gPow : Tryz.prog.globalNamed "internal/strconv.uint64pow10" = some 1 := by kernel_rfl
theorem gPowT : (Tryz.prog.globals[1]?).map (·.type) = some 243 := by kernel_rfl
theorem gSyn : Tryz.prog.globalNamed "strconv.ErrSyntax" = some 4 := by kernel_rfl
theorem gSynT : (Tryz.prog.globals[4]?).map (·.type) = some 155 := by kernel_rfl
theorem gRng : Tryz.prog.globalNamed "strconv.ErrRange" = some 5 := by kernel_rfl
theorem gRngT : (Tryz.prog.globals[5]?).map (·.type) = some 155 := by kernel_rfl
theorem star : "*" ++ "errors.errorString" = "*errors.errorString" := by decide
theorem row274 (u : TypeId) (h : Tryz.prog.typeName? 3 u = some "*errors.errorString") : u = 274 :=
  typeName_ptr_named (nm := "errors.errorString") (by rw [star]; kernel_rfl) (by kernel_rfl) (by decide) u (by rw [star]; exact h)
theorem powData : (Rows.laid_internal_strconv_uint64pow10 : DataW Unit) = Lib.tabData .u64 Lib.pow10Tab := by kernel_rfl
theorem globs {W : World} (h : laidMetH Tryz.prog Rows.entryKnownRow.laid W) : ∀ k ∈ Am.gs, k.holds W := by
  have h1 : laidMet Tryz.prog Rows.entryKnownRow.laid W := h
  have h2 : laidMet Tryz.prog (("internal/strconv.uint64pow10", Rows.laid_internal_strconv_uint64pow10) :: [("unicode/utf8.acceptRanges", Rows.laid_unicode_utf8_acceptRanges), ("strconv.ErrRange", Rows.laid_strconv_ErrRange), ("strconv.ErrSyntax", Rows.laid_strconv_ErrSyntax), ("unicode/utf8.first", Rows.laid_unicode_utf8_first)]) W := h1.tail.tail
  have h3 : laidMet Tryz.prog (("strconv.ErrRange", Rows.laid_strconv_ErrRange) :: [("strconv.ErrSyntax", Rows.laid_strconv_ErrSyntax), ("unicode/utf8.first", Rows.laid_unicode_utf8_first)]) W := h2.tail.tail
  have h4 : laidMet Tryz.prog (("strconv.ErrSyntax", Rows.laid_strconv_ErrSyntax) :: [("unicode/utf8.first", Rows.laid_unicode_utf8_first)]) W := h3.tail
  rw [powData] at h2
  have t := Lib.tabIs_of_head gPow gPowT Tryz.underlying243 Tryz.underlying32 (by kernel_rfl) (by kernel_rfl) h2
  obtain ⟨a0, s0, v0, -, -, -⟩ := laid_sentinel h3 gRng gRngT Tryz.underlying155 row274 Tryz.underlying274 Tryz.underlying276 rfl rfl Tryz.underlying9 (by kernel_rfl) (by kernel_rfl)
  obtain ⟨a1, s1, v1, -, -, -⟩ := laid_sentinel h4 gSyn gSynT Tryz.underlying155 row274 Tryz.underlying274 Tryz.underlying276 rfl rfl Tryz.underlying9 (by kernel_rfl) (by kernel_rfl)
  exact Am.all_cons (A := Am.GK) (Am.tab_holds t gPow) <| Am.all_cons (A := Am.GK) (Am.err_holds v1 gSyn) <| Am.all_cons (A := Am.GK) (Am.err_holds v0 gRng) <| Am.all_nil

/-! A world for the witness -/
def flatW : DataW Unit → List Value
  | .agg l => l.flatMap fun
    | .lit (.int k n) => [.int k n]
    | .agg l => l.flatMap fun
      | .lit (.int k n) => [.int k n]
      | _ => []
    | _ => []
  | _ => []
def put (b : Nat) (cs : List Value) (h : Array Obj) : Array Obj := h.modify b fun
  | .cells _ t frozen => .cells cs.toArray t frozen
  | o => o
abbrev synS : ByteArray := { data := #[105, 110, 118, 97, 108, 105, 100, 32, 115, 121, 110, 116, 97, 120] }
abbrev rngS : ByteArray := { data := #[118, 97, 108, 117, 101, 32, 111, 117, 116, 32, 111, 102, 32, 114, 97, 110, 103, 101] }
noncomputable def low : Nat := (World.holding Tryz.prog default ⟨#[], #[], []⟩).heap.size
noncomputable def base0 (os : Os) : World := World.holding Tryz.prog os ⟨#[.cells #[.string synS] 276, .cells #[.string rngS] 276], #[], []⟩
noncomputable def laidWorld (os : Os) : World :=
  { base0 os with heap := put 2 (flatW Rows.laid_unicode_utf8_first) (put 3 (flatW Rows.laid_unicode_utf8_acceptRanges) (put 6 (flatW Rows.laid_math_bits_deBruijn32tab) (put 7 (flatW Rows.laid_math_bits_deBruijn64tab)
      (put 1 (flatW Rows.laid_internal_strconv_uint64pow10) (put 4 [.iface 274 (.pointer (some ⟨low, 0, none⟩))] (put 5 [.iface 274 (.pointer (some ⟨low + 1, 0, none⟩))] (base0 os).heap)))))) }
theorem laid_met (os : Os) : laidMet Tryz.prog Rows.entryKnownRow.laid ((laidWorld os).forCall (fun _ _ => 0) ⟨#[], #[], []⟩).memory :=
  laidMet_of_run' 8 (by kernel_rfl) (by kernel_rfl)
end Go.Proofs.YtonkmclifimcmaaGreatDoor
