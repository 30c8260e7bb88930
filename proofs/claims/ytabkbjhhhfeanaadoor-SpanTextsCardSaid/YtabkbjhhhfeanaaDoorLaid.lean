/-
  WHAT THE LISTED VARIABLES GIVE A WALK: strconv's two errors hold something, its table of powers of ten is as it is laid; and it stays so. Itoa, under it.
-/
import Derived.Test.YtabkbjhhhfeanaaDoorRows
import Derived.Test.YtabkbjhhhfeanaaDoorShelfB
import Derived.Test.YtabkbjhhhfeanaaDoorPureKit
import Derived.Stop.LaidErr
import Derived.MakeChecks
import Derived.Lib.LaidTab
import Derived.Lib.SmallJoins
import Derived.Lib.AppendIntMem
import Derived.KernelRfl
set_option linter.unusedVariables false
namespace Go.Proofs.YtabkbjhhhfeanaaDoor.Laid
open Go.RowKit Go.Proofs.YtabkbjhhhfeanaaDoorW.PrintWords

theorem gS : Tryd.prog.globalNamed "strconv.ErrSyntax" = some 2 := by kernel_rfl
theorem gR : Tryd.prog.globalNamed "strconv.ErrRange" = some 3 := by kernel_rfl
theorem gP : Tryd.prog.globalNamed "internal/strconv.uint64pow10" = some 1 := by kernel_rfl
structure LD (w : World) : Prop where
  syn : ∃ p, w.var? Tryd.prog "strconv.ErrSyntax" = some #[.iface 94 p]
  ran : ∃ p, w.var? Tryd.prog "strconv.ErrRange" = some #[.iface 94 p]
  tab : Lib.TabIs Tryd.prog w "internal/strconv.uint64pow10" .u64 Lib.pow10Tab
theorem LD.below {w w' : World} (h : LD w) (hb : Below w.heap.size w w') : LD w' where
  syn := by
    obtain ⟨p, hp⟩ := h.syn
    exact ⟨p, Go.Joins.var_stays gS hp hb (Nat.le_refl _)⟩
  ran := by
    obtain ⟨p, hp⟩ := h.ran
    exact ⟨p, Go.Joins.var_stays gR hp hb (Nat.le_refl _)⟩
  tab := Go.Joins.tab_stays gP h.tab hb (Nat.le_refl _)
theorem star_es : "*" ++ "errors.errorString" = "*errors.errorString" := by decide
theorem row_es (u : TypeId) (h : Tryd.prog.typeName? 3 u = some "*errors.errorString") : u = 94 :=
  typeName_ptr_named (nm := "errors.errorString") (by rw [star_es]; kernel_rfl) (by kernel_rfl) (by decide) u (by rw [star_es]; exact h)
/-- From what a row lists. -/
theorem ld_of_laid {W : World} (h : laidMetH Tryd.prog [("math/bits.deBruijn32tab", Rows.laid_math_bits_deBruijn32tab), ("math/bits.deBruijn64tab", Rows.laid_math_bits_deBruijn64tab), ("internal/strconv.uint64pow10", Rows.laid_internal_strconv_uint64pow10), ("strconv.ErrRange", Rows.laid_strconv_ErrRange), ("strconv.ErrSyntax", Rows.laid_strconv_ErrSyntax)] W) : LD W := by
  rw [MakeChecks.laidMetH_plain _ _ _ (by kernel_rfl)] at h
  have h3 := h.tail.tail
  obtain ⟨a1, s1, hv1, -, -, -⟩ := laid_sentinel h3.tail gR (by kernel_rfl) Tryd.underlying57 row_es Tryd.underlying94 Tryd.underlying96 rfl rfl Tryd.underlying9 (by kernel_rfl) (by kernel_rfl)
  obtain ⟨a0, s0, hv0, -, -, -⟩ := laid_sentinel h3.tail.tail gS (by kernel_rfl) Tryd.underlying57 row_es Tryd.underlying94 Tryd.underlying96 rfl rfl Tryd.underlying9 (by kernel_rfl) (by kernel_rfl)
  exact ⟨⟨_, hv0⟩, ⟨_, hv1⟩, Lib.tabIs_of_head gP (by kernel_rfl) Tryd.underlying80 Tryd.underlying65 (by kernel_rfl) (by kernel_rfl) (by
    have e : (Rows.laid_internal_strconv_uint64pow10 : DataW Unit) = Lib.tabData .u64 Lib.pow10Tab := rfl
    rw [← e]
    exact h3)⟩
theorem itoa_any (a0 : Int) (h0 : -9223372036854775808 ≤ a0) (h1 : a0 ≤ 9223372036854775807) (w : World) (hld : LD w) :
    Calls Tryd.prog 22 #[.int .i64 a0] w fun e w' => e = .returned (.string (⟨(Lib.itoa a0).toArray⟩ : ByteArray)) ∧ Below w.heap.size w w' :=
  (Tryd.strconv_Itoa a0 h0 h1 w hld.tab).mono fun e w' h => ⟨h.1, by
    obtain ⟨k, os, rfl⟩ := h.2
    exact Lib.below_grow _ _ (Nat.le_refl _) k os⟩
/-- What Atoi ends in: its number, and whether there is no error. -/
def atoiF (t : List UInt8) : Int × Bool := match Lib.atoiAll t with
  | .ok v => (v, true)
  | .range => (Lib.atoiSat t, false)
  | _ => (0, false)
theorem atoi_any (s : ByteArray) (hs : s.size ≤ 281474976710656) (w : World) (hld : LD w) :
    Calls Tryd.prog 31 #[.string s] w fun e w' => ∃ v, e = .returned (.tuple #[.int .i64 (atoiF s.data.toList).1, v]) ∧ ((atoiF s.data.toList).2 = true ∧ v = .nilIface ∨ (atoiF s.data.toList).2 = false ∧ ∃ t p, v = .iface t p) ∧ Below w.heap.size w w' := by
  unfold atoiF
  cases h : Lib.atoiAll s.data.toList with
  | ok v =>
    refine (Tryd.strconv_Atoi_ok s (by omega) v h w).mono ?_
    rintro e w' ⟨rfl, hw⟩
    refine ⟨_, rfl, .inl ⟨rfl, rfl⟩, ?_⟩
    rcases hw with rfl | ⟨t, rfl⟩
    · exact Below.refl _ _
    · exact Lib.bytesWorld_below w _ t
  | range =>
    obtain ⟨p, hp⟩ := hld.ran
    refine (Tryd.strconv_Atoi_range_var s hs h _ p w hp).mono ?_
    rintro e w' ⟨N, rfl, _, _, hb⟩
    exact ⟨_, rfl, .inr ⟨rfl, _, _, rfl⟩, hb⟩
  | _ =>
    obtain ⟨p, hp⟩ := hld.syn
    refine (Tryd.strconv_Atoi_syntax_var s hs ⟨_, h, nofun, nofun⟩ _ p w hp).mono ?_
    rintro e w' ⟨N, rfl, _, _, hb⟩
    exact ⟨_, rfl, .inr ⟨rfl, _, _, rfl⟩, hb⟩
end Go.Proofs.YtabkbjhhhfeanaaDoor.Laid
