/-
  Lemmas: BDel, PtData, ShelfB.
-/
import Derived.LoopTactic
import Derived.Test.YtpccbmechgkogaaGreatDoorProg
import Derived.Deep.Upon
import Derived.Shelf.Strings.Builder1
import Derived.Shelf.Strconv.Itoa0
import Derived.Shelf.Strconv.Itoa1
import Derived.Shelf.LaysM
import Derived.Shelf.Strconv.Itoa2
import Derived.Shelf.Strconv.Itoa3
import Derived.Shelf.Strings.Search1
import Derived.Shelf.Strings.Search2
import Derived.Shelf.Strings.Search3
import Derived.Shelf.Strings.Shaped
import Derived.Test.YtpccbmechgkogaaGreatDoorV0
import Derived.Test.YtpccbmechgkogaaGreatDoorZ00
import Derived.Test.YtpccbmechgkogaaGreatDoorZ01
import Derived.Test.YtpccbmechgkogaaGreatDoorZ02
import Derived.Test.YtpccbmechgkogaaGreatDoorZ03
import Derived.Test.YtpccbmechgkogaaGreatDoorZ04
import Derived.Test.YtpccbmechgkogaaGreatDoorZ05
import Derived.Test.YtpccbmechgkogaaGreatDoorZ07
import Derived.Test.YtpccbmechgkogaaGreatDoorZ08
import Derived.Test.YtpccbmechgkogaaGreatDoorZ13
import Derived.Test.YtpccbmechgkogaaGreatDoorZ16
import Derived.Test.YtpccbmechgkogaaGreatDoorZ17
import Derived.Test.YtpccbmechgkogaaGreatDoorZ18
import Derived.Test.YtpccbmechgkogaaGreatDoorZ20
set_option linter.unusedVariables false
set_option linter.unusedSimpArgs false
namespace Go.Proofs.YtpccbmechgkogaaGreatDoor.BDel
open Go.RowKit Go.Proofs.YtpccbmechgkogaaGreatDoor.P Go.Proofs.YtpccbmechgkogaaGreatDoorW.PrintWords Go.Proofs.YtpccbmechgkogaaGreatDoorW.PrintLast Go.Proofs.YtpccbmechgkogaaGreatDoorW.PrintMore Go.Proofs.YtpccbmechgkogaaGreatDoor.PureKit Go.Proofs.YtpccbmechgkogaaGreatDoor.BkSpec Go.Proofs.YtpccbmechgkogaaGreatDoor.Wk Go.Proofs.YtpccbmechgkogaaGreatDoor.Row Go.Proofs.YtpccbmechgkogaaGreatDoor.DpChk
abbrev tB : Nat := 40
structure Sh (l ys : List B) (k j : Nat) : Prop where
 len : ys.length = l.length
 lo : ∀ m, m + 1 < j → ys[m]? = (l.eraseIdx k)[m]?
 hi : ∀ m, j ≤ m → ys[m]? = l[m]?
theorem Sh.start (l : List B) (k : Nat) : Sh l l k (k + 1) := ⟨rfl, fun m hm => by rw [List.getElem?_eraseIdx_of_lt (by omega)], fun _ _ => rfl⟩
theorem Sh.step {l ys : List B} {k j : Nat} (h : Sh l ys k j) (hk : k < j) (hj : j < l.length) : Sh l (ys.set (j - 1) l[j]) k (j + 1) := by
 refine ⟨by rw [List.length_set]; exact h.len, fun m hm => ?_, fun m hm => by rw [List.getElem?_set_ne (by omega)]; exact h.hi m (by omega)⟩
 by_cases he : m = j - 1
 ·subst he
  have := h.len
  rw [List.getElem?_set_self (by omega), List.getElem?_eraseIdx_of_ge (by omega), show j - 1 + 1 = j by omega, List.getElem?_eq_getElem hj]
 ·rw [List.getElem?_set_ne (by omega)]
  exact h.lo m (by omega)
theorem Sh.done {l ys : List B} {k : Nat} (h : Sh l ys k l.length) (hk : k < l.length) : ys.take (l.length - 1) = l.eraseIdx k := by
 apply List.ext_getElem?
 intro m
 by_cases hm : m < l.length - 1
 ·rw [List.getElem?_take_of_lt hm]
  exact h.lo m (by omega)
 ·rw [List.getElem?_eq_none (by rw [List.length_take]; omega), List.getElem?_eq_none (by rw [List.length_eraseIdx_of_lt hk]; omega)]
def z5 : Array Value := #[.string ⟨#[]⟩, .int .i64 0, .slice none 0 0, .slice none 0 0, .int .u64 0]
theorem zero_b (W : World) : (zeroValue tB).run Tryz.prog W = .ok (.agg z5) W := by kernel_rfl
theorem run_clear_one' (w : World) (b ni c : Nat) (hc : ∀ j, j < z5.size → (w.cell? ⟨b, ni * 5 + j, none⟩).isSome = true) (hf : ∀ j, j < z5.size → w.frozen? ⟨b, ni * 5 + j, none⟩ = false) :
  (Builtin.clear_ #[23] 0 #[.slice (some ⟨b, ni * 5, none⟩) 1 c]).run Tryz.prog w = .ok (.tuple #[]) (w.setCells b (ni * 5) z5.toList) :=
 UDel.run_clear_one (P := Tryz.prog) w 23 tB 0 z5 Tryz.underlying23 zero_b b (ni * 5) c (by decide) (by kernel_rfl) hc hf
def Gone (w : World) (base : Nat) (ok : Nat → Prop) (l : List B) (k : Nat) (en : Ending) (w' : World) : Prop :=
 ∃ v : Value, en = .returned v ∧ Rd kB w' ok v (l.eraseIdx k) ∧ Below base w w'
set_option maxRecDepth 100000 in
set_option maxHeartbeats 6400000 in
theorem delete_any (w : World) (base : Nat) (ok : Nat → Prop) (v : Value) (l : List B) (k : Nat) (hk : k < l.length) (hl : l.length ≤ 100) (h : Kd.N kB tB w base ok v l) (hbase : base ≤ w.heap.size)
  (fn : Nat) (lb : Array Value) (p : B → Bool) (eg : ∀ args w, (callFunc fn args).run Tryz.prog w = .ok (.enter fn args) w) (hp : p l[k] = true) (hn : ∀ j (h : j < l.length), j ≠ k → p l[j] = false)
  (ha : ∀ (W : World) (x : B) (A2 : Option Addr) (c2 : Nat) (A3 : Option Addr) (c3 : Nat), Below base w W → Calls Tryz.prog fn (#[.agg #[.string x.f0, .int .i64 x.f1, .slice A2 x.f2.length c2, .slice A3 x.f3.length c3, .int .u64 x.f4]] ++ lb) W fun e w' => e = .returned (.bool (p x)) ∧ Below W.heap.size W w') :
  Calls Tryz.prog 55 #[v, .func (.func fn) #[] lb] w (Gone w base ok l k) := by
 obtain ⟨g, cap, rfl, hg, hgl, -⟩ := Kd.N_form h (by omega)
 have hu := Tryz.underlying40
 have hus := Tryz.underlying23
 have hrd := PtPlace.rd_N h
 obtain ⟨_, _, e0, hcap, hF⟩ := hrd
 injection e0 with e0a _ e0c
 subst e0a
 subst e0c
 have hm : l.length ≤ 9223372036854775807 := by omega
 have C1 := IxB.index_any fn lb eg p (some ⟨g, 0, none⟩) cap l w (Kd.F_now hF) (fun W x A2 c2 A3 c3 _ hB _ _ _ _ => ha W x A2 c2 A3 c3 ⟨hB.os, hB.tape, hB.output, hB.size, fun q hq => hB.block q (Nat.lt_of_lt_of_le hq hbase)⟩)
 rw [IdxG.idx_hit p l k hk hp (fun j hj hjk => hn j hj (by omega))] at C1
 have HA := Aside0.mk ha
 have HN := Aside0.mk h
 have HP := Aside0.mk hn
 have HK := Aside0.mk (And.intro hk (And.intro hl (And.intro hg (And.intro hgl (And.intro hcap hbase)))))
 clear h hF ha hn hp
 go_enter Tryz.func55, Tryz.ntmps55
 go_wp2_with fail
 refine C1.mono ?_
 rintro en w1 ⟨rfl, hb1⟩
 have HB1 := Aside0.mk (show Below base w w1 from ⟨hb1.os, hb1.tape, hb1.output, hb1.size, fun q hq => hb1.block q (Nat.lt_of_lt_of_le hq hbase)⟩)
 have HN1 := Aside0.mk (Kd.N_below HN.out hb1)
 have f1 : ((k : Int) == -1) = false := by rw [beq_eq_false_iff_ne]; omega
 have hwk : IntKind.i64.wrap ((k : Int) + 1) = ((k + 1 : Nat) : Int) := by rw [IntKind.wrap_i64]; omega
 clear C1 hb1 HN hk hl hg hgl hcap hbase
 go_wp2
 go_loopw [5, 6] (fun i j wr => ∃ (ni nj : Nat) (ys : List B), i = .int .i64 ni ∧ j = .int .i64 nj ∧ ni + 1 = nj ∧ k < nj ∧ nj ≤ l.length ∧ Aside0 (Sh l ys k nj) ∧ Aside0 (Kd.N kB tB wr base ok (.slice (some ⟨g, 0, none⟩) l.length cap) ys) ∧ Aside0 (Below base w wr)) (fun _ j _ => l.length - (intOf j).toNat)
 case atStart => exact ⟨k, k + 1, l, rfl, by go_num, rfl, by omega, by have := HK.out.1; omega, ⟨Sh.start l k⟩, HN1, HB1⟩
 case round =>
  clear HN1 HB1
  obtain ⟨ni, nj, ys, rfl, rfl, hij, hkj, hjl, HS, HR, HB⟩ := hrel
  by_cases hlt : nj < l.length
  ·have hyl : ys.length = l.length := HS.out.len
   obtain ⟨cq, hcq, hMq, hcc, hfr⟩ := Kd.N_elem HR.out z40 (nj : Int) (by omega) (by omega)
   have hx : ys.getD (nj : Int).toNat z40 = l[nj] := by
    have := HS.out.hi nj (Nat.le_refl _)
    rw [Int.toNat_natCast, List.getD_eq_getElem?_getD, this, List.getElem?_eq_getElem hlt]
    rfl
   rw [hx] at hMq
   have hpx := HP.out nj hlt (by omega)
   have hset := Sh.step HS.out hkj hlt
   generalize l[nj] = x at hMq hpx hset
   have HM := Aside0.mk hMq
   obtain ⟨A2, c2, A3, c3, rfl, hl2, hF2, hl3, hF3⟩ := k40_openF hMq
   rw [Int.toNat_natCast] at hcc hfr
   have h0 : wr.cell? ⟨g, nj * 5, none⟩ = some (.string x.f0) := hcc 0 _ rfl
   have h1 : wr.cell? ⟨g, nj * 5 + 1, none⟩ = some (.int .i64 x.f1) := hcc 1 _ rfl
   have h2 : wr.cell? ⟨g, nj * 5 + 2, none⟩ = some (.slice A2 x.f2.length c2) := hcc 2 _ rfl
   have h3 : wr.cell? ⟨g, nj * 5 + 3, none⟩ = some (.slice A3 x.f3.length c3) := hcc 3 _ rfl
   have h4 : wr.cell? ⟨g, nj * 5 + 4, none⟩ = some (.int .u64 x.f4) := hcc 4 _ rfl
   have hba := below_alloc (Below.refl wr.heap.size wr) (.cells #[.string x.f0, .int .i64 x.f1, .slice A2 x.f2.length c2, .slice A3 x.f3.length c3, .int .u64 x.f4] tB)
   have hgB := Kd.N_form HR.out (by omega)
   have hblt : base ≤ wr.heap.size := Nat.le_trans HK.out.2.2.2.2.2 HB.out.size
   have toB : ∀ {W : World}, Below wr.heap.size wr W → Below base w W := fun h => HB.out.trans ⟨h.os, h.tape, h.output, h.size, fun q hq => h.block q (Nat.lt_of_lt_of_le hq hblt)⟩
   have CA := HA.out _ x A2 c2 A3 c3 (toB hba)
   rw [hpx] at CA
   have KX := Aside0.mk (blk_new wr (.cells #[.string x.f0, .int .i64 x.f1, .slice A2 x.f2.length c2, .slice A3 x.f3.length c3, .int .u64 x.f4] tB))
   have HTB := Aside0.mk (fun W (h : Below wr.heap.size wr W) => toB h)
   have HBA := Aside0.mk hba
   have HST := Aside0.mk hset
   have HI := Aside0.mk (And.intro hij (And.intro hkj hlt))
   have i0 : (0 : Int) ≤ (nj : Int) := by omega
   have i1 : (nj : Int) < (l.length : Int) := by omega
   have d1 : decide ((nj : Int) < (l.length : Int)) = true := by rw [decide_eq_true_iff]; omega
   clear hcq hMq hcc hfr hx hpx hset hl2 hF2 hl3 hF3 hba hgB toB hyl hkj hjl
   go_wp2_with fail
   refine CA.mono ?_
   rintro en w2 ⟨rfl, hb2⟩
   have hbT := below_step HBA.out hb2
   have KX2 := Aside0.mk (blk_below KX.out hb2)
   have HR2 := Aside0.mk (Kd.N_below HR.out hbT)
   have HM2 := Aside0.mk (Kd.FK_below HM.out hbT)
   have HB2 := Aside0.mk (HTB.out _ hbT)
   obtain ⟨cq, hcq, -, hcc, hfr⟩ := Kd.N_elem HR2.out z40 (ni : Int) (by omega) (by have := HI.out; omega)
   obtain ⟨y0, y1, y2, y3, y4, rfl⟩ : ∃ y0 y1 y2 y3 y4, cq = [y0, y1, y2, y3, y4] := by
    match cq, hcq with
    | [y0, y1, y2, y3, y4], _ => exact ⟨y0, y1, y2, y3, y4, rfl⟩
   have HCC := Aside0.mk hcc
   rw [Int.toNat_natCast] at hcc hfr
   have g0 : w2.cell? ⟨g, ni * 5, none⟩ = some y0 := hcc 0 _ rfl
   have f0' : w2.frozen? ⟨g, ni * 5, none⟩ = false := hfr 0
   have g1 : w2.cell? ⟨g, ni * 5 + 1, none⟩ = some y1 := hcc 1 _ rfl
   have f1' : w2.frozen? ⟨g, ni * 5 + 1, none⟩ = false := hfr 1
   have g2 : w2.cell? ⟨g, ni * 5 + 2, none⟩ = some y2 := hcc 2 _ rfl
   have f2' : w2.frozen? ⟨g, ni * 5 + 2, none⟩ = false := hfr 2
   have g3 : w2.cell? ⟨g, ni * 5 + 3, none⟩ = some y3 := hcc 3 _ rfl
   have f3' : w2.frozen? ⟨g, ni * 5 + 3, none⟩ = false := hfr 3
   have g4 : w2.cell? ⟨g, ni * 5 + 4, none⟩ = some y4 := hcc 4 _ rfl
   have f4' : w2.frozen? ⟨g, ni * 5 + 4, none⟩ = false := hfr 4
   have hz := fun j => blk_cell KX2.out j
   have e0 : (0 : Int) ≤ (ni : Int) := by omega
   have e1 : (ni : Int) < (l.length : Int) := by have := HI.out; omega
   have hwi : IntKind.i64.wrap ((ni : Int) + 1) = ((ni + 1 : Nat) : Int) := by rw [IntKind.wrap_i64]; have := HI.out; have := HK.out.2.1; omega
   have hwj : IntKind.i64.wrap ((nj : Int) + 1) = ((nj + 1 : Nat) : Int) := by rw [IntKind.wrap_i64]; have := HI.out; have := HK.out.2.1; omega
   clear hcq hcc hfr hb2 hbT CA h0 h1 h2 h3 h4 d1
   go_wp2_with fail
   have hseg := Kd.N_seg (d := kB) HR2.out (ni : Int) e0 e1 (c := [y0, y1, y2, y3, y4]) (seg := [.string x.f0, .int .i64 x.f1, .slice A2 x.f2.length c2, .slice A3 x.f3.length c3, .int .u64 x.f4]) (j := 0) rfl HCC.out (Nat.le_refl 5) (x' := x) (okp := fun q => ok q ∧ q ≠ g) HM2.out (fun q hq => hq)
   rw [Int.toNat_natCast] at hseg
   have hI := HI.out
   have hgg := HK.out.2.2.1
   refine ⟨⟨nj, nj + 1, ys.set ni x, rfl, by go_num, rfl, by omega, by omega, ⟨by have := HST.out; rwa [show nj - 1 = ni by omega] at this⟩, ⟨hseg.1⟩, ⟨HB2.out.grown hseg.2 (Nat.le_trans HK.out.2.2.2.2.2 HB2.out.size) (fun q e => by cases e; exact hgg)⟩⟩, by simp [intOf]; omega⟩
  ·have hn : nj = l.length := by omega
   subst hn
   have hyl : ys.length = l.length := HS.out.len
   have hdone := Sh.done HS.out (by omega)
   have hN2 := Kd.N_take HR.out (m := ni) (by omega)
   rw [show ys.take ni = l.eraseIdx k by rw [← hdone]; congr 1; omega] at hN2
   obtain ⟨hgb, cur, hrow⟩ := Row.of_N hN2
   have hcap := HK.out.2.2.2.2.1
   have hclr := fun cc => BDel.run_clear_one' wr g ni cc (fun j hj => hrow.cell (ni * 5 + j) (by
    have h3 : j < 5 := hj
    show ni * 5 + j < cap * 5
    omega)) (fun j _ => hrow.thaw _)
   obtain ⟨cur1, hR1⟩ := hrow.spare (ni * 5) z5.toList (Nat.le_refl _) (by show ni * 5 + 5 ≤ cap * 5; omega)
   have HR1 := Aside0.mk (hR1.rd)
   have HB1 := Aside0.mk (HB.out.grown (setCells_grown wr g (ni * 5) z5.toList) (Nat.le_trans HK.out.2.2.2.2.2 HB.out.size) (fun k e => by cases e; exact HK.out.2.2.1))
   have ho : ok g := HR.out.1 g rfl
   have HO := Aside0.mk ho
   have f3 : (0 : Int) ≤ (ni : Int) := by omega
   have f4 : (ni : Int) ≤ (l.length : Int) := by omega
   have f6 : (l.length : Int) ≤ (cap : Int) := by omega
   have f10 : (ni : Int) ≤ (cap : Int) := by omega
   have f11 : l.length - ni = 1 := by omega
   clear hrow hR1 hN2 hyl hdone HR HB HS
   go_wp2
   go_ret
   refine ⟨.slice (some ⟨g, 0, none⟩) ni cap, rfl, Kd.V_mono HR1.out ?_, HB1.out⟩
   rintro q (hq | rfl)
   ·exact hq.1
   ·exact HO.out
end Go.Proofs.YtpccbmechgkogaaGreatDoor.BDel
namespace Go.Proofs.YtpccbmechgkogaaGreatDoor.PtData
open Go.RowKit Go.Proofs.YtpccbmechgkogaaGreatDoor.P Go.Proofs.YtpccbmechgkogaaGreatDoorW.PrintWords Go.Proofs.YtpccbmechgkogaaGreatDoor.PureKit Go.Proofs.YtpccbmechgkogaaGreatDoor.BkSpec Go.Proofs.YtpccbmechgkogaaGreatDoor.Wk
def zU : U := ⟨0, ⟨#[]⟩, []⟩
theorem fine_any (u : U) (A : Option Addr) (c : Nat) (w : World) (h : upB u = true ∨ u = zU) (hr : Kd.C PtAbort.kP w A u.f2.length u.f2) (hc : u.f2.length ≤ c) :
  Calls Tryz.prog 154 #[.agg #[.int .u64 u.f0, .string u.f1, .slice A u.f2.length c]] w fun e w' => e = .returned (.bool (upB u)) ∧ Below w.heap.size w w' := by
 rcases h with h | rfl
 ·rw [h]
  exact ChkP.fine_any u A c w hr h
 ·exact ChkP.fine_zero A c w
def dataOf (n : Int) : List P → ByteArray → ByteArray
 | [], s => s
 | p :: r, s => dataOf n r (if p.f0 == n then p.f1 else s)
theorem data_size (n : Int) : ∀ (l : List P) (s : ByteArray), (∀ p ∈ l, partB p = true) → s.size ≤ 2000 → (dataOf n l s).size ≤ 2000
 | [], s, _, h => h
 | p :: r, s, hp, h => by
  refine data_size n r _ (fun q hq => hp q (by simp [hq])) ?_
  split
  ·have := hp p (by simp)
   unfold partB at this
   simp only [Bool.and_eq_true, decide_eq_true_eq] at this
   omega
  ·exact h
set_option maxRecDepth 100000 in
set_option maxHeartbeats 3200000 in
theorem data_any (u : U) (n : Int) (h : upB u = true) : ∃ r : ByteArray, r.size ≤ 2000 ∧ ∀ (A : Option Addr) (c : Nat) (w : World), Kd.C PtAbort.kP w A u.f2.length u.f2 → u.f2.length ≤ c →
  Calls Tryz.prog 157 #[.agg #[.int .u64 u.f0, .string u.f1, .slice A u.f2.length c], .int .i64 n] w fun e w' => e = .returned (.string r) ∧ Below w.heap.size w w' := by
 obtain ⟨_, _, _, h4, h5, _⟩ := PtPure.up_iff.1 h
 refine ⟨dataOf n u.f2 ⟨#[]⟩, data_size n u.f2 _ h5 (by decide), fun A c w hr hc => ?_⟩
 have HR := Aside0.mk (fun W (hW : Below w.heap.size w W) => Kd.C_below hr hW)
 have HB := Aside0.mk (below_alloc (Below.refl w.heap.size w) (.cells #[.int .u64 u.f0, .string u.f1, .slice A u.f2.length c] 226))
 have hu := Tryz.underlying226
 have hu2 := Tryz.underlying119
 clear hr hc h5 h
 go_enter Tryz.func157, Tryz.ntmps157
 go_wp2
 go_loopw [5, 11] (fun s i wr => ∃ (k : Nat) (x : ByteArray), k ≤ u.f2.length ∧ i = .int .i64 k ∧ s = .string x ∧ Aside0 (dataOf n (u.f2.drop k) x = dataOf n u.f2 ⟨#[]⟩) ∧ Aside0 (Below w.heap.size w wr)) (fun _ i _ => u.f2.length - (intOf i).toNat)
 case atStart => exact ⟨0, ⟨#[]⟩, by omega, rfl, rfl, ⟨by simp⟩, HB⟩
 case round =>
  clear HB
  obtain ⟨k, x, hk, rfl, rfl, HX, HB⟩ := hrel
  by_cases hlt : k < u.f2.length
  ·obtain ⟨ad, e0, h0, h1⟩ := at_T119 (HR.out _ HB.out) (k : Int) (by omega) (by omega)
   subst e0
   have hx : rd_T119 u.f2 (k : Int) = u.f2[k] := rd_here _ u.f2 k hlt
   rw [hx, Int.toNat_natCast] at h0 h1
   have HX := Aside0.mk (show dataOf n (u.f2.drop (k + 1)) (if u.f2[k].f0 == n then u.f2[k].f1 else x) = dataOf n u.f2 ⟨#[]⟩ by rw [← HX.out, List.drop_eq_getElem_cons hlt]; rfl)
   generalize u.f2[k] = p at h0 h1 HX
   have HL := Aside0.mk hlt
   have j0 : (0 : Int) ≤ (k : Int) := by omega
   have j1 : (k : Int) < (u.f2.length : Int) := by omega
   have hw2 : IntKind.i64.wrap ((k : Int) + 1) = ((k + 1 : Nat) : Int) := by rw [IntKind.wrap_i64]; omega
   clear hx hk hlt
   cases hp : p.f0 == n with
   | true =>
    rw [hp] at HX
    go_wp2
    exact ⟨⟨k + 1, _, by have := HL.out; omega, by go_num, rfl, HX, ⟨below_alloc HB.out _⟩⟩, by simp [intOf]; have := HL.out; omega⟩
   | false =>
    rw [hp] at HX
    go_wp2
    exact ⟨⟨k + 1, _, by have := HL.out; omega, by go_num, rfl, HX, ⟨below_alloc HB.out _⟩⟩, by simp [intOf]; have := HL.out; omega⟩
  ·have hk2 : k = u.f2.length := by omega
   have hm : x = dataOf n u.f2 ⟨#[]⟩ := by have := HX.out; rw [hk2, List.drop_length] at this; exact this
   clear HX
   subst hk2 hm
   go_wp2
   go_ret
   exact ⟨rfl, HB.out⟩
end Go.Proofs.YtpccbmechgkogaaGreatDoor.PtData
namespace Go.Proofs
open Go.Shelf
def Tryz.lays170_ren : Go.Shelf.Ren := ⟨fun | 170 => 159 | n => n, fun | 70 => 231 | 3 => 3 | 0 => 0 | 72 => 233 | 37 => 94 | 5 => 5 | n => n, fun | n => n⟩
theorem Tryz.lays170 : Go.Proofs.Lays.n170 Tryz.prog Tryz.lays170_ren := {
 mixed := by kernel_rfl
 f170 := Tryz.func159.trans (congrArg some (by kernel_rfl))
 t0 := Tryz.underlying0
 a0 := Tryz.isAgg0
 z0 := Tryz.sizeOf0
 v0 := Tryz.zeroValue0
 t3 := Tryz.underlying3
 a3 := Tryz.isAgg3
 z3 := Tryz.sizeOf3
 v3 := Tryz.zeroValue3
 t37 := Tryz.underlying94
 a37 := Tryz.isAgg94
 z37 := Tryz.sizeOf94
 v37 := Tryz.zeroValue94
 t70 := Tryz.underlying231
 a70 := Tryz.isAgg231
 z70 := Tryz.sizeOf231
 v70 := Tryz.zeroValue231
 t72 := Tryz.underlying233
 a72 := Tryz.isAgg233
 z72 := Tryz.sizeOf233
 v72 := Tryz.zeroValue233 }
open Go.RowKit in
theorem Tryz.Builder_Len (B b : Nat) (bs : List Value) (w : World) (h : Lib.IsBuilder 233 5 B b bs w) :
  Calls Tryz.prog 159 #[.pointer (some ⟨b, 0, none⟩)] w fun e w' => e = .returned (.int .i64 bs.length) ∧ w' = w := Any.Builder_Len Tryz.lays170 B b bs w h
def Tryz.lays169_ren : Go.Shelf.Ren := ⟨fun | 169 => 161 | n => n, fun | 70 => 231 | 9 => 9 | 0 => 0 | 72 => 233 | 37 => 94 | 127 => 256 | 3 => 3 | 5 => 5 | n => n, fun | n => n⟩
theorem Tryz.lays169 : Go.Proofs.Lays.n169 Tryz.prog Tryz.lays169_ren := {
 mixed := by kernel_rfl
 f169 := Tryz.func161.trans (congrArg some (by kernel_rfl))
 t0 := Tryz.underlying0
 a0 := Tryz.isAgg0
 z0 := Tryz.sizeOf0
 v0 := Tryz.zeroValue0
 t3 := Tryz.underlying3
 a3 := Tryz.isAgg3
 z3 := Tryz.sizeOf3
 v3 := Tryz.zeroValue3
 t9 := Tryz.underlying9
 a9 := Tryz.isAgg9
 z9 := Tryz.sizeOf9
 v9 := Tryz.zeroValue9
 t37 := Tryz.underlying94
 a37 := Tryz.isAgg94
 z37 := Tryz.sizeOf94
 v37 := Tryz.zeroValue94
 t70 := Tryz.underlying231
 a70 := Tryz.isAgg231
 z70 := Tryz.sizeOf231
 v70 := Tryz.zeroValue231
 t72 := Tryz.underlying233
 a72 := Tryz.isAgg233
 z72 := Tryz.sizeOf233
 v72 := Tryz.zeroValue233
 t127 := Tryz.underlying256
 a127 := Tryz.isAgg256
 z127 := Tryz.sizeOf256
 v127 := Tryz.zeroValue256 }
theorem Tryz.Builder_Extra_169 : Builder.Extra Tryz.prog Tryz.lays169_ren := {
 sizeBuilder := by kernel_rfl
 liesBuilder := by kernel_rfl
 t5 := Tryz.underlying5
 a5 := Tryz.isAgg5
 z5 := Tryz.sizeOf5
 v5 := Tryz.zeroValue5
 infoByte := by kernel_rfl
 cellsByte := by kernel_rfl
 sizeByte := by kernel_rfl
 neB5 := by decide }
open Go.RowKit in
theorem Tryz.Builder_String_any (B b : Nat) (l : List UInt8) (w : World) (h : Lib.IsBuilder 233 5 B b (Lib.byteCells l) w) (hBw : B ≤ w.heap.size) :
  Calls Tryz.prog 161 #[.pointer (some ⟨b, 0, none⟩)] w fun e w' => e = .returned (.string ⟨l.toArray⟩) ∧ Below B w w' := Any.Builder_String_any Tryz.lays169 Tryz.Builder_Extra_169 B b l w h hBw
def Tryz.lays171_ren : Go.Shelf.Ren := ⟨fun | 171 => 190 | 243 => 204 | 246 => 213 | 283 => 223 | 284 => 224 | 285 => 225 | 286 => 226 | 129 => 235 | 317 => 234 | 318 => 236 | 319 => 237 | 320 => 238 | 337 => 239 | 338 => 240 | n => n, fun | 3 => 3 | 9 => 9 | 2 => 2 | 4 => 4 | 171 => 282 | 0 => 0 | 53 => 26 | 37 => 94 | 5 => 5 | 173 => 284 | 212 => 289 | 51 => 60 | 20 => 20 | 213 => 290 | 46 => 161 | 232 => 293 | 233 => 294 | n => n, fun | 17 => 1 | 18 => 2 | 19 => 3 | n => n⟩
theorem Tryz.lays171 : Go.Proofs.Lays.n171 Tryz.prog Tryz.lays171_ren := {
 mixed := by kernel_rfl
 f129 := Tryz.func235.trans (congrArg some (by kernel_rfl))
 f171 := Tryz.func190.trans (congrArg some (by kernel_rfl))
 f243 := Tryz.func204.trans (congrArg some (by kernel_rfl))
 f246 := Tryz.func213.trans (congrArg some (by kernel_rfl))
 f283 := Tryz.func223.trans (congrArg some (by kernel_rfl))
 f284 := Tryz.func224.trans (congrArg some (by kernel_rfl))
 f285 := Tryz.func225.trans (congrArg some (by kernel_rfl))
 f286 := Tryz.func226.trans (congrArg some (by kernel_rfl))
 f317 := Tryz.func234.trans (congrArg some (by kernel_rfl))
 f318 := Tryz.func236.trans (congrArg some (by kernel_rfl))
 f319 := Tryz.func237.trans (congrArg some (by kernel_rfl))
 f320 := Tryz.func238.trans (congrArg some (by kernel_rfl))
 f337 := Tryz.func239.trans (congrArg some (by kernel_rfl))
 f338 := Tryz.func240.trans (congrArg some (by kernel_rfl))
 t0 := Tryz.underlying0
 a0 := Tryz.isAgg0
 z0 := Tryz.sizeOf0
 v0 := Tryz.zeroValue0
 t2 := Tryz.underlying2
 a2 := Tryz.isAgg2
 z2 := Tryz.sizeOf2
 v2 := Tryz.zeroValue2
 t3 := Tryz.underlying3
 a3 := Tryz.isAgg3
 z3 := Tryz.sizeOf3
 v3 := Tryz.zeroValue3
 t4 := Tryz.underlying4
 a4 := Tryz.isAgg4
 z4 := Tryz.sizeOf4
 v4 := Tryz.zeroValue4
 t5 := Tryz.underlying5
 a5 := Tryz.isAgg5
 z5 := Tryz.sizeOf5
 v5 := Tryz.zeroValue5
 t9 := Tryz.underlying9
 a9 := Tryz.isAgg9
 z9 := Tryz.sizeOf9
 v9 := Tryz.zeroValue9
 t20 := Tryz.underlying20
 a20 := Tryz.isAgg20
 z20 := Tryz.sizeOf20
 v20 := Tryz.zeroValue20
 t37 := Tryz.underlying94
 a37 := Tryz.isAgg94
 z37 := Tryz.sizeOf94
 v37 := Tryz.zeroValue94
 t46 := Tryz.underlying161
 a46 := Tryz.isAgg161
 z46 := Tryz.sizeOf161
 v46 := Tryz.zeroValue161
 t51 := Tryz.underlying60
 a51 := Tryz.isAgg60
 z51 := Tryz.sizeOf60
 v51 := Tryz.zeroValue60
 t53 := Tryz.underlying26
 a53 := Tryz.isAgg26
 z53 := Tryz.sizeOf26
 v53 := Tryz.zeroValue26
 t171 := Tryz.underlying282
 a171 := Tryz.isAgg282
 z171 := Tryz.sizeOf282
 v171 := Tryz.zeroValue282
 t173 := Tryz.underlying284
 a173 := Tryz.isAgg284
 z173 := Tryz.sizeOf284
 v173 := Tryz.zeroValue284
 t212 := Tryz.underlying289
 a212 := Tryz.isAgg289
 z212 := Tryz.sizeOf289
 v212 := Tryz.zeroValue289
 t213 := Tryz.underlying290
 a213 := Tryz.isAgg290
 z213 := Tryz.sizeOf290
 t232 := Tryz.underlying293
 a232 := Tryz.isAgg293
 z232 := Tryz.sizeOf293
 v232 := Tryz.zeroValue293
 t233 := Tryz.underlying294
 a233 := Tryz.isAgg294
 z233 := Tryz.sizeOf294
 v233 := Tryz.zeroValue294
 g17 := by kernel_rfl
 g18 := by kernel_rfl
 g19 := by kernel_rfl }
open Go.RowKit Go.Sort Go.Lib in
theorem Tryz.strconv_Itoa_small (i : Nat) (hi : i < 100) (w : World) :
  Calls Tryz.prog 190 #[.int .i64 i] w fun e w' => e = .returned (.string ⟨(Lib.decDigits i).toArray⟩) ∧ w' = w := Any.strconv_Itoa_small Tryz.lays171 i hi w
end Go.Proofs
