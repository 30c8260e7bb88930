/-
  Lemmas: PtWhole.
-/
import Derived.RegionTactic
import Derived.Outline
import Derived.Test.YtpccbmechgkogaaGreatDoorProg
import Derived.Test.YtpccbmechgkogaaGreatDoorV0
import Derived.Test.YtpccbmechgkogaaGreatDoorZ00
import Derived.Test.YtpccbmechgkogaaGreatDoorZ01
import Derived.Test.YtpccbmechgkogaaGreatDoorZ02
import Derived.Test.YtpccbmechgkogaaGreatDoorZ03
import Derived.Test.YtpccbmechgkogaaGreatDoorZ04
import Derived.Test.YtpccbmechgkogaaGreatDoorZ07
import Derived.Test.YtpccbmechgkogaaGreatDoorZ17
import Derived.Test.YtpccbmechgkogaaGreatDoorZ18
import Derived.Test.YtpccbmechgkogaaGreatDoorZ20
import Derived.Test.YtpccbmechgkogaaGreatDoorZ21
import Derived.Test.YtpccbmechgkogaaGreatDoorZ22
import Derived.Test.YtpccbmechgkogaaGreatDoorZ23
import Derived.Test.YtpccbmechgkogaaGreatDoorZ24
set_option linter.unusedVariables false
set_option linter.unusedSimpArgs false
namespace Go.Proofs.YtpccbmechgkogaaGreatDoor.PtWhole
open Go.RowKit Go.Proofs.YtpccbmechgkogaaGreatDoor.P Go.Proofs.YtpccbmechgkogaaGreatDoorW.PrintWords Go.Proofs.YtpccbmechgkogaaGreatDoorW.PrintLast Go.Proofs.YtpccbmechgkogaaGreatDoorW.PrintMore Go.Proofs.YtpccbmechgkogaaGreatDoor.PureKit Go.Proofs.YtpccbmechgkogaaGreatDoor.BkSpec Go.Proofs.YtpccbmechgkogaaGreatDoor.Wk Go.Proofs.YtpccbmechgkogaaGreatDoor.PtLack Go.Proofs.YtpccbmechgkogaaGreatDoor.PtData Go.Proofs.YtpccbmechgkogaaGreatDoor.Bldr
def Some3 (w : World) (en : Ending) (w' : World) : Prop := ∃ (s t : ByteArray) (er : Int), en = .returned (.tuple #[.string s, .string t, .int .i64 er]) ∧ Below w.heap.size w w'
theorem infoU32 : (Tryz.prog.info? 60).map (fun i => (i.zero, i.size, i.bytes)) = some (some (.int .u32 0), 1, 4) := by kernel_rfl
abbrev tu : Nat := 226
set_option maxRecDepth 100000 in
set_option maxHeartbeats 12800000 in
theorem whole_any (w : World) (u : U) (A : Option Addr) (c : Nat) (B : Option Addr) (d : Nat) (l : List I) (h : upB u = true ∨ u = zU) (hr : Kd.C PtAbort.kP w A u.f2.length u.f2) (hc : u.f2.length ≤ c) (hl : Kd.C kI w B l.length l) (hd : l.length ≤ d) (hn : l.length ≤ 40) :
  Calls Tryz.prog 114 #[.agg #[.int .u64 u.f0, .string u.f1, .slice A u.f2.length c], .slice B l.length d] w (Some3 w) := by
 have hu := Tryz.underlying131
 have huu := Tryz.underlying226
 have hui := Tryz.underlying228
 have hub := Tryz.underlying233
 have hmf : ∀ (fn : Fn) (first cap : Array Value) (w : World), (Instr.makeFunc fn first cap).run Tryz.prog w = .ok (.func fn first cap) w := fun _ _ _ _ => rfl
 have HR := Aside0.mk (fun W (hW : Below w.heap.size w W) => Kd.C_below hr hW)
 have HL := Aside0.mk (fun W (hW : Below w.heap.size w W) => Kd.C_below hl hW)
 have HN := Aside0.mk hn
 have HC := Aside0.mk (And.intro hc hd)
 have HUP := Aside0.mk h
 obtain ⟨b0, hb0⟩ : ∃ b0, b0 = Obj.cells #[.int .u64 u.f0, .string u.f1, .slice A u.f2.length c] 131 := ⟨_, rfl⟩
 have K1 := fun o => Aside0.mk (blk_push w o (.cells #[.int .u64 u.f0, .string u.f1, .slice A u.f2.length c] tu))
 have HB0 := Aside0.mk (below_alloc (below_alloc (Below.refl w.heap.size w) (.cells #[.int .u64 u.f0, .string u.f1, .slice A u.f2.length c] 131)) (.cells #[.int .u64 u.f0, .string u.f1, .slice A u.f2.length c] tu))
 clear h hr hc hl hd hn hb0 b0
 have hz := fun o j => blk_cell (K1 o).out j
 go_enter Tryz.func114, Tryz.ntmps114
 go_wp2_with fail
 refine (fine_any u A c _ HUP.out (HR.out _ HB0.out) HC.out.1).mono ?_
 rintro en w1 ⟨rfl, hb1⟩
 have K2 := Aside0.mk (blk_below (K1 _).out hb1)
 have HB1 := Aside0.mk (below_step HB0.out hb1)
 clear hb1 K1 HB0 hz
 by_cases hf : upB u = true
 case neg =>
  rw [Bool.not_eq_true] at hf
  rw [hf]
  clear hf
  go_wp2
  go_ret3
  exact ⟨_, _, _, rfl, HB1.out⟩
 have HF := Aside0.mk hf
 rw [hf]
 clear hf
 by_cases h0 : l.length = 0
 ·have d1 : ((l.length : Int) == 0) = true := by rw [beq_iff_eq]; omega
  clear h0
  go_wp2
  (try rw [d1])
  go_wp2
  go_ret3
  exact ⟨_, _, _, rfl, HB1.out⟩
 have d1 : ((l.length : Int) == 0) = false := by rw [beq_eq_false_iff_ne]; omega
 have H0 := Aside0.mk h0
 clear h0
 go_wp2
 (try rw [d1])
 go_wp2
 clear d1
 go_loopw [8] (fun v8 wr => ∃ k : Nat, v8 = .int .i64 k ∧ 1 ≤ k ∧ k ≤ l.length ∧ Aside0 (wr.heap[w.heap.size + 1]? = some (.cells #[.int .u64 u.f0, .string u.f1, .slice A u.f2.length c] tu (0, 0))) ∧ Aside0 (Below w.heap.size w wr)) (fun v8 _ => l.length - (intOf v8).toNat)
 case atStart => exact ⟨1, rfl, Nat.le_refl _, by have := H0.out; omega, K2, HB1⟩
 case round =>
  clear K2 HB1
  obtain ⟨k, rfl, hk1, hk, K2, HB1⟩ := hrel
  by_cases hlt : k < l.length
  ·have d3 : decide ((k : Int) < (l.length : Int)) = true := by rw [decide_eq_true_iff]; omega
   obtain ⟨m, hm⟩ : ∃ m, k = m + 1 := ⟨k - 1, by omega⟩
   obtain ⟨ad, hA, x0, x1⟩ := at_T228 (HL.out _ HB1.out) (m : Int) (by omega) (by omega)
   obtain ⟨ad', hA', y0, y1⟩ := at_T228 (HL.out _ HB1.out) (k : Int) (by omega) (by omega)
   subst hA
   cases hA'
   rw [Int.toNat_natCast] at x0 y0
   have j0 : (0 : Int) ≤ (m : Int) := by omega
   have j1 : (m : Int) < (l.length : Int) := by omega
   have j2 : (0 : Int) ≤ (k : Int) := by omega
   have j3 : (k : Int) < (l.length : Int) := by omega
   have hw : IntKind.i64.wrap ((k : Int) - 1) = (m : Int) := by rw [IntKind.wrap_i64]; have := HN.out; omega
   have hw2 : IntKind.i64.wrap ((k : Int) + 1) = ((k + 1 : Nat) : Int) := by rw [IntKind.wrap_i64]; have := HN.out; omega
   have HK := Aside0.mk (And.intro hk1 hlt)
   have HM := Aside0.mk hm
   clear hm hlt hk hk1 x1 y1
   generalize (rd_T228 l (m : Int)).f0 = n0 at x0
   generalize (rd_T228 l (k : Int)).f0 = n1 at y0
   go_wp2_with fail
   go_region
   have HB2 := Aside0.mk (below_drew HB1.out)
   have K3 := Aside0.mk (blk_drew K2.out)
   clear x0 y0 j0 j1 j2 j3 d3
   generalize decide (n1 ≤ n0) = q
   cases q with
   | true =>
    go_wp2
    go_ret3
    exact ⟨_, _, _, rfl, HB2.out⟩
   | false =>
    go_wp2
    exact ⟨⟨k + 1, by go_num, by omega, by have := HK.out; omega, K3, HB2⟩, by simp [intOf]; have := HK.out; omega⟩
  ·have hk2 : k = l.length := by omega
   subst hk2
   clear hlt hk hk1
   have C1 := IxJ.contains_any 156 (.agg #[.int .u64 u.f0, .string u.f1, .slice A u.f2.length c]) (fun _ _ => by rfl) (lacks u) B d l wr (HL.out _ HB1.out) (fun W x _ hW => lacks_any u x A c W HF.out (HR.out _ (below_step HB1.out hW)) HC.out.1)
   have hz := fun j => blk_cell K2.out j
   generalize hq : l.any (lacks u) = q at C1
   clear hq
   go_wp2_with fail
   refine C1.mono ?_
   rintro en w2 ⟨rfl, hb2⟩
   have K3 := Aside0.mk (blk_below K2.out hb2)
   have HB2 := Aside0.mk (below_step HB1.out hb2)
   clear hz C1 hb2 K2 HB1
   cases q with
   | true =>
    go_wp2
    go_ret3
    exact ⟨_, _, _, rfl, HB2.out⟩
   | false =>
    go_wp2
    have K4 := Aside0.mk (blk_alloc K3.out (.cells #[.pointer none, .slice none 0 0] tBd))
    have HB3 := Aside0.mk (below_alloc HB2.out (.cells #[.pointer none, .slice none 0 0] tBd))
    have hbd := Lib.fresh_isBuilder tBd tU8 w2
    have HI0 : Aside0 (Lib.IsBuilder tBd tU8 w.heap.size w2.heap.size (Lib.byteCells []) (w2.alloc (.cells #[.pointer none, .slice none 0 0] tBd))) := ⟨by
     rcases hbd with ⟨h1, v, h2, h3, h4⟩ | ⟨h1, v, h2, h3, h4⟩
     ·exact .inl ⟨HB2.out.size, v, h2, own_less h3 HB2.out.size, h4⟩
     ·exact .inr ⟨HB2.out.size, v, h2, own_less h3 HB2.out.size, h4⟩⟩
    have HSZ := Aside0.mk (Nat.lt_of_lt_of_le (blk_lt K3.out) (Nat.le_refl _))
    clear hbd
    clear K3 HB2
    go_loopw [10, 49] (fun v10 v49 wr => ∃ (k : Nat) (ts : List Int) (bs : List UInt8), v49 = .int .i64 k ∧ k ≤ l.length ∧ ts.length = k ∧ bs.length ≤ 2000 * k ∧ Aside0 (wr.ownsRow w.heap.size 60 1 v10 ts.length (nums .u32 ts)) ∧ Aside0 (Lib.IsBuilder tBd tU8 w.heap.size w2.heap.size (Lib.byteCells bs) wr) ∧ Aside0 (wr.heap[w.heap.size + 1]? = some (.cells #[.int .u64 u.f0, .string u.f1, .slice A u.f2.length c] tu (0, 0))) ∧ Aside0 (Below w.heap.size w wr)) (fun _ v49 _ => l.length - (intOf v49).toNat)
    case atStart => exact ⟨0, [], [], rfl, Nat.zero_le _, rfl, by simp, ⟨own_nil _ _ _ _⟩, HI0, K4, HB3⟩
    case round =>
     clear HI0 K4 HB3
     obtain ⟨k, ts, bs, rfl, hk, hts, hbs, HO, HI, K4, HB3⟩ := hrel
     by_cases hlt : k < l.length
     ·have d3 : decide ((k : Int) < (l.length : Int)) = true := by rw [decide_eq_true_iff]; omega
      obtain ⟨ad, hA, x0, x1⟩ := at_T228 (HL.out _ HB3.out) (k : Int) (by omega) (by omega)
      subst hA
      rw [Int.toNat_natCast] at x0 x1
      have j0 : (0 : Int) ≤ (k : Int) := by omega
      have j1 : (k : Int) < (l.length : Int) := by omega
      have HK := Aside0.mk (And.intro hlt (And.intro hts hbs))
      clear hlt hk hts hbs
      generalize (rd_T228 l (k : Int)).f0 = n0 at x0
      generalize (rd_T228 l (k : Int)).f1 = n1 at x1
      obtain ⟨s, hs, CD⟩ := data_any u n0 HF.out
      have HSS := Aside0.mk hs
      have hz := fun o j => blk_cell (blk_alloc K4.out o) j
      have hy := fun j => blk_cell (blk_new wr (.cells #[.int .i64 n0, .int .u32 n1] tI)) j
      clear hs
      go_wp2_with fail
      have HBA := below_alloc (Below.refl wr.heap.size wr) (.cells #[.int .i64 n0, .int .u32 n1] tI)
      refine (CD A c _ (HR.out _ (below_step HB3.out HBA)) HC.out.1).mono ?_
      rintro en w3 ⟨rfl, hb3⟩
      have hbS := below_step HBA hb3
      have HB4 := Aside0.mk (below_step HB3.out hbS)
      have K5 := Aside0.mk (blk_below K4.out hbS)
      have KP := Aside0.mk (blk_below (blk_new wr (.cells #[.int .i64 n0, .int .u32 n1] tI)) hb3)
      have HO2 := Aside0.mk (pw_own_below HO.out hbS)
      have HI2 := Aside0.mk (is_below HI.out hbS)
      have HLT : Aside0 (wr.heap.size ≠ w2.heap.size) := ⟨by obtain ⟨cs, h⟩ := is_blk HI.out; have := blk_lt h; omega⟩
      have HLT1 : Aside0 (w.heap.size + 1 ≠ w2.heap.size) := ⟨by have := HSZ.out; omega⟩
      have hwl : IntKind.i64.wrap ((l.length : Int) - 1) = (l.length : Int) - 1 := by rw [IntKind.wrap_i64]; have := HN.out; have := HK.out.1; omega
      have hw2 : IntKind.i64.wrap ((k : Int) + 1) = ((k + 1 : Nat) : Int) := by rw [IntKind.wrap_i64]; have := HN.out; have := HK.out.1; omega
      clear hz hy x0 x1 hb3 HBA hbS CD HO HI K4 HB3
      by_cases g1 : (k : Int) < (l.length : Int) - 1
      case' pos =>
       have d4 : decide ((k : Int) < (l.length : Int) - 1) = true := decide_eq_true g1
       clear g1
       by_cases g2 : (s.size : Int) < 5
       case' pos =>
        have d5 : decide ((s.size : Int) < 5) = true := decide_eq_true g2
        clear g2
        go_wp2
        go_ret3
        exact ⟨_, _, _, rfl, HB4.out⟩
       case' neg =>
        have d5 : decide ((s.size : Int) < 5) = false := decide_eq_false g2
        clear g2
        go_wp2_with fail
      case' neg =>
       have d4 : decide ((k : Int) < (l.length : Int) - 1) = false := decide_eq_false g1
       clear g1
       go_wp2_with fail
      all_goals
       clear d4
       (try clear d5)
       refine (write_any w.heap.size w2.heap.size (Lib.byteCells bs) s w3 HI2.out (by have h1 := HK.out.2.2; have h2 := HSS.out; have h3 := HK.out.1; have h4 := HN.out; rw [show (Lib.byteCells bs).length = bs.length from List.length_map ..]; omega) HB4.out.size).mono ?_
       rintro en w4 ⟨rfl, hBa, hb4, hk4⟩
       have HO4 := Aside0.mk (own_kept HO2.out hk4 (is_blk HI2.out) (by decide) (by decide))
       have K6 := Aside0.mk (hk4 _ _ K5.out (fun e => HLT1.out (Option.some.inj e)) (fun c fz e => by injection e with _ ht; exact absurd ht (by decide)))
       have KP4 := Aside0.mk (hk4 _ _ KP.out (fun e => HLT.out (Option.some.inj e)) (fun c fz e => by injection e with _ ht; exact absurd ht (by decide)))
       have HB5 := Aside0.mk (show Below w.heap.size w w4 from HB4.out.trans hb4)
       have HI4 := Aside0.mk (show Lib.IsBuilder tBd tU8 w.heap.size w2.heap.size (Lib.byteCells (bs ++ s.data.toList)) w4 from .inr (by have := hBa; rw [show Lib.byteCells (bs ++ s.data.toList) = Lib.byteCells bs ++ Lib.strCells s from List.map_append ..]; exact this))
       clear hBa hb4 hk4 HO2 HI2 K5 KP HB4
       have hz := fun j => blk_cell KP4.out j
       go_wp2_with (at_builtin; refine print_append_num (w0 := w) w.heap.size rfl (.tmp 70) (.tmp 73) 234 60 .u32 4 rfl Tryz.underlying234 infoU32 (by decide) _ ts n1 rfl rfl HO4.out HB5.out HB5.out.size (by have h1 := HK.out.2.1; have h3 := HK.out.1; have h4 := HN.out; omega) ?_)
       intro v1 w5 hO5 hB5 hG5 hat
       have HO5 := Aside0.mk hO5
       have HI5 := Aside0.mk (is_row HI4.out hG5 HO4.out (by decide) (by decide))
       have K7 : Aside0 (w5.heap[w.heap.size + 1]? = some (.cells #[.int .u64 u.f0, .string u.f1, .slice A u.f2.length c] tu (0, 0))) := ⟨(hG5.block _ (blk_lt K6.out) (fun e => by
        have hh := own_kind HO4.out _ e.symm
        obtain ⟨cs, fz, hh⟩ := hh
        rw [K6.out] at hh
        injection hh with hh
        injection hh with _ ht
        exact absurd ht (by decide))).trans K6.out⟩
       have HB6 := Aside0.mk hB5
       clear hO5 hB5 hG5 hat HO4 HI4 K6 HB5 KP4 hz
       go_wp2
       exact ⟨⟨k + 1, ts ++ [n1], bs ++ s.data.toList, by go_num, by have := HK.out.1; omega, by have := HK.out.2.1; simp; omega, by have h1 := HK.out.2.2; have h2 := HSS.out; have h5 : s.data.toList.length = s.size := rfl; rw [List.length_append, h5]; omega, by have := HO5; simpa only [List.length_append, List.length_cons, List.length_nil] using this, HI5, K7, HB6⟩, by simp [intOf]; have := HK.out.1; omega⟩
     ·have hk2 : k = l.length := by omega
      subst hk2
      have HBS := Aside0.mk hbs
      have HTS := Aside0.mk hts
      clear hlt hk
      go_wp2_with fail
      refine (Tryz.Builder_Len w.heap.size w2.heap.size (Lib.byteCells bs) wr HI.out).mono ?_
      rintro en w3 ⟨rfl, rfl⟩
      have hbl : (Lib.byteCells bs).length = bs.length := List.length_map ..
      rw [hbl]
      clear hbl
      by_cases g1 : (bs.length : Int) > 2000
      ·have d4 : decide ((bs.length : Int) > 2000) = true := decide_eq_true g1
       clear g1
       go_wp2
       (try rw [d4])
       go_wp2
       go_ret3
       exact ⟨_, _, _, rfl, HB3.out⟩
      ·have d4 : decide ((bs.length : Int) > 2000) = false := decide_eq_false g1
       clear g1
       obtain ⟨A6, c6, rfl, hc6, hC6⟩ := Kd.R_reads (ok := fun _ => True) (show Kd.R (Kd.int .u32) 60 w3 w.heap.size (fun _ => True) _ ts from Kd.R_of_own HO.out (fun _ _ => trivial))
       have HC6 := Aside0.mk (And.intro hC6 hc6)
       clear hC6 hc6 hts hbs
       go_wp2_with fail
       refine (TagMany.many_any A6 c6 ts w3 HC6.out.1 HC6.out.2 (by have h1 := HTS.out; have h2 := HN.out; omega)).mono ?_
       rintro en w4 ⟨s, er, rfl, hb4⟩
       have HB5 := Aside0.mk (below_step HB3.out hb4)
       have HI5 := Aside0.mk (is_below HI.out hb4)
       clear hb4
       go_wp2_with fail
       refine (Tryz.Builder_String_any w.heap.size w2.heap.size bs w4 HI5.out HB5.out.size).mono ?_
       rintro en w5 ⟨rfl, hb5⟩
       have HB6 := Aside0.mk (HB5.out.trans hb5)
       clear hb5
       go_wp2
       go_ret3
       exact ⟨_, _, _, rfl, HB6.out⟩
end Go.Proofs.YtpccbmechgkogaaGreatDoor.PtWhole
