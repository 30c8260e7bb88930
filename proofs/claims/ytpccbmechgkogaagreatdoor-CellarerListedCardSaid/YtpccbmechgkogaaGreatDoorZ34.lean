/-
  Lemmas: PSrch, ClP, InsP.
-/
import Derived.LoopTactic
import Derived.Test.YtpccbmechgkogaaGreatDoorProg
import Derived.Lib.SliceRun
import Derived.Outline
import Derived.Lib.Overlaps
import Derived.Shelf.Spec.SlicesInsert
import Derived.Shelf.RegionOpenPlain
import Derived.KernelRfl
import Derived.Test.YtpccbmechgkogaaGreatDoorV0
import Derived.Test.YtpccbmechgkogaaGreatDoorZ00
import Derived.Test.YtpccbmechgkogaaGreatDoorZ01
import Derived.Test.YtpccbmechgkogaaGreatDoorZ02
import Derived.Test.YtpccbmechgkogaaGreatDoorZ12
import Derived.Test.YtpccbmechgkogaaGreatDoorZ18
import Derived.Test.YtpccbmechgkogaaGreatDoorZ31
set_option linter.unusedVariables false
set_option linter.unusedSimpArgs false
namespace Go.Proofs.YtpccbmechgkogaaGreatDoor.PSrch
open Go.RowKit Go.Proofs.YtpccbmechgkogaaGreatDoor.P Go.Proofs.YtpccbmechgkogaaGreatDoorW.PrintWords Go.Proofs.YtpccbmechgkogaaGreatDoor.PureKit Go.Proofs.YtpccbmechgkogaaGreatDoor.BkSpec
abbrev kP := k119
abbrev tP : Nat := 119
set_option maxRecDepth 100000 in
set_option maxHeartbeats 1600000 in
theorem cmp_any (x : P) (n : Int) (w : World) (h1 : 0 ≤ x.f0) (h2 : x.f0 ≤ 1000) (h3 : 0 ≤ n) (h4 : n ≤ 1000) : Calls Tryz.prog 150 #[.agg #[.int .i64 x.f0, .string x.f1], .int .i64 n] w fun e w' => e = .returned (.int .i64 (x.f0 - n)) ∧ Below w.heap.size w w' := by
 have hu := Tryz.underlying119
 have hw : IntKind.i64.wrap (x.f0 - n) = x.f0 - n := by rw [IntKind.wrap_i64]; omega
 have HB := Aside0.mk (below_alloc (Below.refl w.heap.size w) (.cells #[.int .i64 x.f0, .string x.f1] tP))
 clear h1 h2 h3 h4
 go_enter Tryz.func150, Tryz.ntmps150
 go_wp2
 go_ret
 exact ⟨rfl, HB.out⟩
def Srch (w : World) (l : List P) (n : Int) (en : Ending) (w' : World) : Prop :=
 ∃ (k : Nat) (b : Bool), en = .returned (.tuple #[.int .i64 k, .bool b]) ∧ k ≤ l.length ∧ (∀ j (h : j < l.length), j < k → l[j].f0 < n) ∧ (∀ j (h : j < l.length), k ≤ j → n ≤ l[j].f0) ∧ (b = true ↔ ∃ h : k < l.length, l[k].f0 = n) ∧ Below w.heap.size w w'
theorem rise_lt : ∀ (l : List P), partsRise l = true → ∀ i j (hi : i < l.length) (hj : j < l.length), i < j → l[i].f0 < l[j].f0
 | [], _, i, j, hi, _, _ => by simp at hi
 | [x], _, i, j, hi, hj, h => by simp at hi hj; omega
 | x :: y :: r, hr, i, j, hi, hj, h => by
  unfold partsRise at hr
  simp only [riseBy, Bool.and_eq_true, decide_eq_true_eq] at hr
  have ih := rise_lt (y :: r) hr.2
  cases j with
  | zero => omega
  | succ j =>
   have hj' : j < (y :: r).length := by simpa using hj
   cases i with
   | zero =>
    cases j with
    | zero => exact hr.1
    | succ j =>
     have := ih 0 (j + 1) (by simp) hj' (by omega)
     have h2 := hr.1
     simp only [List.getElem_cons_zero, List.getElem_cons_succ] at this ⊢
     omega
   | succ i => exact ih i j (by simpa using hi) hj' (by omega)
set_option maxRecDepth 100000 in
set_option maxHeartbeats 6400000 in
theorem srch_any (A : Option Addr) (c : Nat) (l : List P) (n : Int) (w : World) (hr : Kd.C kP w A l.length l) (hm : ∀ p ∈ l, 0 ≤ p.f0 ∧ p.f0 ≤ 1000) (hl : l.length ≤ 30) (h3 : 0 ≤ n) (h4 : n ≤ 1000) (hrise : partsRise l = true) :
  Calls Tryz.prog 149 #[.slice A l.length c, .int .i64 n, .func (.func 150) #[] #[]] w (Srch w l n) := by
 have HR := Aside0.mk hr
 have HM := Aside0.mk hm
 have HRI := Aside0.mk (rise_lt l hrise)
 have HN := Aside0.mk (And.intro h3 h4)
 have hu := Tryz.underlying119
 clear hr hm hrise h3 h4
 go_enter Tryz.func149, Tryz.ntmps149
 go_wp2
 go_loopw [9, 10] (fun i j wr => ∃ ni nj : Nat, i = .int .i64 ni ∧ j = .int .i64 nj ∧ ni ≤ nj ∧ nj ≤ l.length ∧ Aside0 (∀ q (h : q < l.length), q < ni → l[q].f0 < n) ∧ Aside0 (∀ q (h : q < l.length), nj ≤ q → n ≤ l[q].f0) ∧ Aside0 (Below w.heap.size w wr)) (fun i j _ => (intOf j).toNat - (intOf i).toNat)
 case atStart => exact ⟨0, l.length, rfl, rfl, by omega, by omega, ⟨fun q _ h => absurd h (Nat.not_lt_zero _)⟩, ⟨fun q h h' => by omega⟩, ⟨Below.refl _ _⟩⟩
 case round =>
  obtain ⟨ni, nj, rfl, rfl, hij, hjl, HA, HC, HB⟩ := hrel
  by_cases hlt : ni < nj
  ·obtain ⟨m, hm⟩ : ∃ m, m = (ni + nj) / 2 := ⟨_, rfl⟩
   have hm1 : ni ≤ m := by omega
   have hm2 : m < nj := by omega
   have e1 : IntKind.i64.wrap ((ni : Int) + (nj : Int)) = (ni : Int) + (nj : Int) := by rw [IntKind.wrap_i64]; omega
   have hml : m < l.length := by omega
   have hmid : ((ni : Int) + (nj : Int)) / 2 = (m : Int) := by omega
   obtain ⟨ad, e0, h0, h1⟩ := at_T119 (Kd.C_below HR.out HB.out) (m : Int) (by omega) (by omega)
   have hx : rd_T119 l (m : Int) = l[m] := by unfold rd_T119; rw [Int.toNat_natCast, List.getD_eq_getElem?_getD, List.getElem?_eq_getElem hml]; rfl
   rw [hx] at h0 h1
   rw [Int.toNat_natCast] at h0 h1
   subst e0
   have hb := HM.out _ (List.getElem_mem hml)
   have HLT := Aside0.mk (fun q (h : q < l.length) (hq : q < m) => HRI.out q m h hml hq)
   have HGT := Aside0.mk (fun q (h : q < l.length) (hq : m < q) => HRI.out m q hml h hq)
   have HEQ := Aside0.mk (fun q (h : q < l.length) (hq : q = m) => (show l[q].f0 = l[m].f0 by subst hq; rfl))
   generalize l[m] = x at h0 h1 hb HLT HGT HEQ
   have C := cmp_any x n wr hb.1 hb.2 HN.out.1 HN.out.2
   have i0 : (0 : Int) ≤ (m : Int) := by omega
   have i1 : (m : Int) < (l.length : Int) := by omega
   have HMM := Aside0.mk hm
   have HBX := Aside0.mk hb
   clear hx hm hb
   go_wp2_with fail
   refine C.mono ?_
   rintro en w2 ⟨rfl, hb2⟩
   have HB2 := Aside0.mk (below_step HB.out hb2)
   clear hb2 C h0 h1
   by_cases hc : x.f0 - n < 0
   ·have d1 : decide (x.f0 - n < 0) = true := decide_eq_true hc
    have e2 : IntKind.i64.wrap ((m : Int) + 1) = (m : Int) + 1 := by rw [IntKind.wrap_i64]; omega
    have HCC := Aside0.mk hc
    clear hc
    go_wp2
    refine ⟨⟨m + 1, nj, by go_num, rfl, by omega, hjl, ⟨fun q h hq => ?_⟩, HC, HB2⟩, by simp [intOf]; omega⟩
    have := HCC.out
    by_cases e : q = m
    ·have := HEQ.out q h e; omega
    ·have := HLT.out q h (by omega); omega
   ·have d1 : decide (x.f0 - n < 0) = false := decide_eq_false hc
    have HCC := Aside0.mk hc
    clear hc
    go_wp2
    refine ⟨⟨ni, m, rfl, rfl, by omega, by omega, HA, ⟨fun q h hq => ?_⟩, HB2⟩, by simp [intOf]; omega⟩
    have := HCC.out
    by_cases e : q = m
    ·have := HEQ.out q h e; omega
    ·have := HGT.out q h (by omega); omega
  ·have hij2 : ni = nj := by omega
   subst hij2
   clear hlt hij
   by_cases hk : ni < l.length
   ·obtain ⟨ad, e0, h0, h1⟩ := at_T119 (Kd.C_below HR.out HB.out) (ni : Int) (by omega) (by omega)
    have hx : rd_T119 l (ni : Int) = l[ni] := by unfold rd_T119; rw [Int.toNat_natCast, List.getD_eq_getElem?_getD, List.getElem?_eq_getElem hk]; rfl
    rw [hx] at h0 h1
    rw [Int.toNat_natCast] at h0 h1
    subst e0
    have hb := HM.out _ (List.getElem_mem hk)
    have HEX := Aside0.mk (show (∃ h : ni < l.length, l[ni].f0 = n) ↔ l[ni].f0 = n from ⟨fun ⟨_, h⟩ => h, fun h => ⟨hk, h⟩⟩)
    generalize l[ni] = x at h0 h1 hb HEX
    have C := cmp_any x n wr hb.1 hb.2 HN.out.1 HN.out.2
    have HBX := Aside0.mk hb
    clear hx hb
    go_wp2_with fail
    refine C.mono ?_
    rintro en w2 ⟨rfl, hb2⟩
    have HB2 := Aside0.mk (below_step HB.out hb2)
    clear hb2 C h0 h1
    go_wp2
    go_ret2
    exact ⟨ni, _, rfl, hjl, HA.out, HC.out, by rw [HEX.out]; simp; omega, HB2.out⟩
   ·have HK := Aside0.mk hk
    have d1 : decide (ni < l.length) = false := decide_eq_false hk
    clear hk
    go_wp2
    go_ret2
    exact ⟨ni, false, rfl, hjl, HA.out, HC.out, ⟨fun h => by (cases h), fun ⟨h, _⟩ => absurd h HK.out⟩, HB.out⟩
end Go.Proofs.YtpccbmechgkogaaGreatDoor.PSrch
namespace Go.Proofs.YtpccbmechgkogaaGreatDoor.ClP
open Go.RowKit Go.Proofs.YtpccbmechgkogaaGreatDoor.P Go.Proofs.YtpccbmechgkogaaGreatDoorW.PrintWords
abbrev T := S119
theorem info : (Tryz.prog.info? 119).map (fun i => (i.zero, i.size, i.bytes)) = some (some (.agg #[(.int .i64 0), (.string ⟨#[]⟩)]), 2, 24) := by kernel_rfl
def Post (ok : Nat → Prop) (w : World) (l : List T) (e : Ending) (w' : World) : Prop := ∃ v0_ : Value, e = .returned v0_ ∧ Kd.N k119 119 w' w.heap.size (fun k_ => ok k_ ∨ w.heap.size ≤ k_) v0_ l ∧ Below w.heap.size w w'
set_option maxRecDepth 100000 in
set_option maxHeartbeats 1600000 in
theorem clone_any (w : World) (ok : Nat → Prop) (hok : ∀ k_, ok k_ → k_ < w.heap.size) (A : Option Addr) (c : Nat) (l : List T) (hr : Kd.F k119 w ok A l.length l) (hl : l.length < 5864062014805) :
  Calls Tryz.prog 151 #[.slice A l.length c] w (Post ok w l) := by
 have qT : ∀ (w : World) (a : Option Addr) (n c n' c' : Nat), (binOp .eql 129 (.slice a n c) (.slice none n' c')).run Tryz.prog w = .ok (.bool a.isNone) w := fun w a n c n' c' => Lib.run_eql_slice_nil w _ _ a n c n' c' Tryz.underlying129
 cases A with
 | none =>
  have h0 : l = [] := by
   rcases l with _ | ⟨x, r⟩
   ·rfl
   ·obtain ⟨ad, h, _⟩ := (Kd.F_now hr).2.2 (by simp)
    cases h
  subst h0
  clear hr hl
  go_enter Tryz.func151, Tryz.ntmps151
  go_wp2
  go_ret
  exact ⟨_, rfl, Kd.N_nil _ _ _ _ _, Below.refl _ _⟩
 | some ad =>
  have HR := Aside0.mk hr
  have HK := Aside0.mk hok
  clear hr hok
  have hu := Tryz.underlying119
  go_enter Tryz.func151, Tryz.ntmps151
  have HL := Aside0.mk hl
  clear hl
  go_wp2_with (first
   | ((with_reducible refine gate_dst (N := 5) rfl ?_); refine Kd.N_lit (w0 := w) k119 w.heap.size 119 ?hg (N' := 5) ?hd (xs := []) (inner := []) (ok := fun k_ => ok k_ ∨ w.heap.size ≤ k_) (okp := fun _ => False) ?hr ?hp (fun _ h => h.elim) (.inr (Nat.le_refl _)) (Below.refl _ _) (Nat.le_refl _) (by simp) ?_; (case hd => rfl); (case hg => rfl); (case hr => first | (go_simp; done) | (go_simp; rfl)); (case hp => exact Reps.none _ _); intro v1 w1 ho hb hg hat; have HO := Aside0.mk ho; have HB := Aside0.mk hb; have HA := Aside0.mk hat; have HG := Aside0.mk hg; clear ho hb hg hat)
   | ((with_reducible refine gate_builtin (b := .append) (xs := #[.tmp 5, .tmp 6]) rfl ?_); at_builtin; refine Kd.N_append_rows k119 (w0 := w) w.heap.size rfl (.tmp 5) (.tmp 6) 129 119 (.agg #[(.int .i64 0), (.string ⟨#[]⟩)]) 24 rfl Tryz.underlying129 info rfl (by decide) (by omega) v1 [] l _ _ _ (fun k_ => ok k_ ∨ w.heap.size ≤ k_) ok rfl rfl ?aO ?aR ?aP ?aF ?aB ?aS ?aL ?_; (case aR => exact Kd.F_grown HR.out HG.out (fun _ _ => by simp)); (case aP => exact (fun k_ h_ => ⟨.inl h_, by obtain ⟨b, e1, e2⟩ := HA.out; rw [e1]; have := HK.out k_ h_; intro e3; have := Option.some.inj e3; omega⟩)); (case aB => exact HB.out); (case aF => exact (fun k_ h_ => .inr (Nat.le_trans HB.out.size h_))); (case aO => exact HO.out); (case aS => exact HB.out.size); (case aL => have := HL.out; simp; omega); intro v2 w2 ho hb hg hat; have HO2 := Aside0.mk ho; have HB2 := Aside0.mk hb; clear HO HB HA HG; clear ho hb hg hat))
  go_ret
  exact ⟨_, rfl, HO2.out, HB2.out⟩
end Go.Proofs.YtpccbmechgkogaaGreatDoor.ClP
namespace Go.Proofs.YtpccbmechgkogaaGreatDoor.InsP
open Go.RowKit Go.Proofs.YtpccbmechgkogaaGreatDoor.P Go.Proofs.YtpccbmechgkogaaGreatDoorW.PrintWords Go.Proofs.YtpccbmechgkogaaGreatDoorW.PrintLast Go.Proofs.YtpccbmechgkogaaGreatDoorW.PrintMore Go.Proofs.YtpccbmechgkogaaGreatDoor.Row Go.Proofs.YtpccbmechgkogaaGreatDoor.Ins Go.Proofs.YtpccbmechgkogaaGreatDoor.VCopy Go.Proofs.YtpccbmechgkogaaGreatDoor.VApp
abbrev T := S119
def Ins (w : World) (base : Nat) (ok : Nat → Prop) (r : List T) (en : Ending) (w' : World) : Prop := ∃ v' : Value, en = .returned v' ∧ Kd.V k119 0 w' 0 (fun k => ok k ∨ w.heap.size ≤ k) v' r ∧ Below base w w'
theorem info : ∃ i : TypeInfo, Tryz.prog.info? 119 = some i ∧ i.zero = some (.agg #[(.int .i64 0), (.string ⟨#[]⟩)]) ∧ i.size = 2 ∧ i.bytes = 24 := by
 obtain ⟨i, hi, h⟩ := Option.map_eq_some_iff.1 ClP.info
 simp only [Prod.mk.injEq] at h
 exact ⟨i, hi, h.1, h.2.1, h.2.2⟩
theorem size_T : (Tryz.prog.info? 119).map (·.size) = some 2 := by
 obtain ⟨i, hi, _, hs, _⟩ := info
 rw [hi]; simp [hs]
set_option maxRecDepth 100000 in
set_option maxHeartbeats 3200000 in
theorem insert_end (w : World) (base : Nat) (ok okp : Nat → Prop) (v : Value) (l : List T) (x : T) (cx : List Value) (vb t : Nat) (h : Kd.N k119 119 w base ok v l) (hl : l.length ≤ 100) (hb : w.heap[vb]? = some (.cells cx.toArray t (0, 0))) (hx : Kd.FK k119 w okp x cx) (hok : ∀ k, okp k ∨ k = vb → ok k ∧ some k ≠ v.ownBlock) (hbase : base ≤ w.heap.size) :
  Calls Tryz.prog 152 #[v, .int .i64 l.length, .slice (some ⟨vb, 0, none⟩) 1 1] w (Ins w base ok (l ++ [x])) := by
 have HN := Aside0.mk (Kd.N_mono h (fun k hk => (Or.inl hk : ok k ∨ w.heap.size ≤ k)))
 have HX := Aside0.mk (one_F hb hx)
 have HOK := Aside0.mk hok
 have HB := Aside0.mk hbase
 have HL := Aside0.mk hl
 obtain ⟨A, c, rfl⟩ := Kd.N_slice h
 clear h hb hx hok hbase hl
 have hu := Tryz.underlying119
 go_enter Tryz.func152, Tryz.ntmps152
 go_wp2_with (first
  | ((with_reducible refine gate_builtin (b := .append) (xs := #[.tmp 23, .tmp 24]) rfl ?_); at_builtin; refine Kd.N_append_rows k119 (w0 := w) base rfl (.tmp 23) (.tmp 24) 129 119 (.agg #[(.int .i64 0), (.string ⟨#[]⟩)]) 24 rfl Tryz.underlying129 ClP.info rfl (by decide) (by decide) (.slice A l.length c) l [x] (some ⟨vb, 0, none⟩) 1 1 (fun k => ok k ∨ w.heap.size ≤ k) (fun k => okp k ∨ k = vb) rfl rfl HN.out HX.out (fun k hk => ⟨.inl (HOK.out k hk).1, (HOK.out k hk).2⟩) (fun k hk => .inr hk) (Below.refl _ _) HB.out ?hl ?_; (case hl => have := HL.out; omega); intro v1 w1 hN1 hB1 hg hat; have HN1 := Aside0.mk hN1; have HB1 := Aside0.mk hB1; clear hN1 hB1 hg hat))
 all_goals
  go_ret
  exact ⟨v1, rfl, show Kd.V k119 119 w1 0 _ v1 _ from Kd.N_V HN1.out, HB1.out⟩
set_option maxRecDepth 100000 in
set_option maxHeartbeats 6400000 in
theorem insert_grow (w : World) (base g n cap i : Nat) (ok : Nat → Prop) (l : List T) (cur : Array Value) (x : T) (cx : List Value) (vb t : Nat) (h : Row k119 w ok g 119 n cap l cur) (hl : n ≤ 100) (hi : i < n) (hroom : cap < n + 1) (hb : w.heap[vb]? = some (.cells cx.toArray t (0, 0))) (hx : Kd.FK k119 w ok x cx) (hok : ∀ k, ok k → k < w.heap.size) (hbase : base ≤ w.heap.size) :
  Calls Tryz.prog 152 #[.slice (some ⟨g, 0, none⟩) n cap, .int .i64 i, .slice (some ⟨vb, 0, none⟩) 1 1] w (Ins w base ok (l.take i ++ [x] ++ l.drop i)) := by
 obtain ⟨inf, hinf, hz, hs, hby⟩ := info
 have hgl : g < w.heap.size := blk_lt h.heap
 have hvl : vb < w.heap.size := blk_lt hb
 have hiq : i * 2 ≤ n * 2 := by omega
 have hcx : cx.length = 2 := k119.K_len (Kd.FK_now hx)
 have hzr := run_zeros_more (P := Tryz.prog) w 129 3 129 119 inf (.agg #[(.int .i64 0), (.string ⟨#[]⟩)]) Tryz.underlying129 Tryz.underlying3 hinf hz (by omega) .i64 g i cap (n + 1 - i) (own cur (i * 2)) (by rw [hs]; exact own_len h _ hiq) (own_cell h _) (by omega) (by omega) (by rw [hby]; omega) (by omega)
 rw [show i + (n + 1 - i) = n + 1 by omega] at hzr
 obtain ⟨gs, hgs, hcap⟩ : ∃ gs, grownCap w (n + 1) cap 119 = gs ∧ n + 1 ≤ gs := ⟨_, rfl, grownCap_ge w _ _ _⟩
 have hmx : gs ≤ maxLen := hgs ▸ grownCap_le_maxLen w (n + 1) cap 119 (by simp only [maxLen]; omega)
 rw [hgs] at hzr
 have hzs : ∀ k, (Builtin.zeroCells (Value.agg #[(.int .i64 0), (.string ⟨#[]⟩)]).cells k).size = k * 2 := fun k => by
  have h5 : (Value.agg #[(.int .i64 0), (.string ⟨#[]⟩)]).cells.size = 2 := rfl
  simp [Builtin.zeroCells, h5]
 obtain ⟨cur3, hR3⟩ := grow_row (i := i) (gs := gs) (x := x) (cx := cx) (Z1 := Builtin.zeroCells (Value.agg #[(.int .i64 0), (.string ⟨#[]⟩)]).cells (n + 1 - i)) (Z2 := Builtin.zeroCells (Value.agg #[(.int .i64 0), (.string ⟨#[]⟩)]).cells (gs - (n + 1))) h hi hcap hmx hx hok (hzs _) (hzs _)
 have hR3' : Row k119 (((w.drew.alloc (.cells ((own cur (i * 2)).toArray ++ Builtin.zeroCells (Value.agg #[(.int .i64 0), (.string ⟨#[]⟩)]).cells (n + 1 - i) ++ Builtin.zeroCells (Value.agg #[(.int .i64 0), (.string ⟨#[]⟩)]).cells (gs - (n + 1))) 119)).setCells w.heap.size (i * 2) cx).drew.setCells w.heap.size ((i + 1) * 2) ((own cur (n * 2)).drop (i * 2))) ok w.heap.size 119 (n + 1) gs (l.take i ++ [x] ++ l.drop i) cur3 := hR3
 obtain ⟨C0, hC0⟩ : ∃ C0, C0 = (own cur (i * 2)).toArray ++ Builtin.zeroCells (Value.agg #[(.int .i64 0), (.string ⟨#[]⟩)]).cells (n + 1 - i) ++ Builtin.zeroCells (Value.agg #[(.int .i64 0), (.string ⟨#[]⟩)]).cells (gs - (n + 1)) := ⟨_, rfl⟩
 have hC0s : C0.size = gs * 2 := by
  rw [hC0]
  simp only [Array.size_append, List.size_toArray, own_len h _ hiq, hzs]
  omega
 rw [← hC0] at hzr hR3'
 obtain ⟨W1, hW1⟩ : ∃ W1, W1 = w.drew.alloc (.cells C0 119) := ⟨_, rfl⟩
 rw [← hW1] at hzr hR3'
 have k1 : W1.heap[w.heap.size]? = some (.cells C0 119 (0, 0)) := by rw [hW1]; exact blk_new w.drew (.cells C0 119)
 have hB1 : Below w.heap.size w W1 := by rw [hW1]; exact below_alloc (below_drew (Below.refl _ _)) _
 have hone := own_one h
 have hc1 := run_copy_rows (P := Tryz.prog) W1 129 129 3 119 2 w.heap.size (i * 2) (n + 1 - i) (gs - i) ⟨vb, 0, none⟩ 1 1 1 cx Tryz.underlying129 size_T (by show 1 = min 1 (n + 1 - i); omega) (by rw [hcx])
  (fun j v hj => by
   rw [Addr.add_lit, Nat.zero_add]
   have h2 : w.cell? ⟨vb, j, none⟩ = some v := by rw [blk_cell hb j]; simpa using hj
   exact (hB1.cell (p := ⟨vb, j, none⟩) hvl).trans h2)
  (fun j hj => by rw [blk_cell k1 _, Array.getElem?_eq_getElem (by rw [hC0s]; omega)]; rfl)
  (fun j _ => blk_frozen k1 _) (k119.K_one (Kd.FK_now hx))
 rw [show (goInt ((1 : Nat) : Int)) = .int .i64 1 from rfl] at hc1
 obtain ⟨c2, k2, k2s, _⟩ := setCells_row cx (i * 2) W1 C0 k1 (by rw [hC0s]; omega)
 have hold : ((own cur (n * 2)).drop (i * 2)).length = (n - i) * 2 := by rw [List.length_drop, own_len h (n * 2) (Nat.le_refl _)]; omega
 have hc2 := run_copy_rows (P := Tryz.prog) (W1.setCells w.heap.size (i * 2) cx).drew 129 129 3 119 2 w.heap.size ((i + 1) * 2) (n - i) (gs - (i + 1)) ⟨g, i * 2, none⟩ (n - i) (cap - i) (n - i) ((own cur (n * 2)).drop (i * 2)) Tryz.underlying129 size_T (by show n - i = min (n - i) (n - i); omega) hold
  (fun j v hj => by
   rw [Addr.add_lit]
   rw [List.getElem?_drop] at hj
   have h2 := own_cell h _ _ v hj
   have h3 := (hB1.cell (p := ⟨g, i * 2 + j, none⟩) hgl).trans h2
   exact ((setCells_grown W1 w.heap.size (i * 2) cx).cell_far _ (World.block_lt_of_cell? _ _ h3) (fun e => by
    have e2 : g = w.heap.size := Option.some.inj e
    omega)).trans h3)
  (fun j hj => by rw [show (W1.setCells w.heap.size (i * 2) cx).drew.cell? ⟨w.heap.size, (i + 1) * 2 + j, none⟩ = _ from blk_cell k2 _, Array.getElem?_eq_getElem (by rw [k2s, hC0s]; omega)]; rfl)
  (fun j _ => blk_frozen k2 _) (fun v hv => hone v (List.mem_of_mem_drop hv))
 have HC2 := Aside0.mk hc2
 have b1 : Below base w W1 := ⟨hB1.os, hB1.tape, hB1.output, hB1.size, fun k hk => hB1.block k (by omega)⟩
 have b2 := b1.grown (setCells_grown W1 w.heap.size (i * 2) cx) (Nat.le_trans hbase b1.size) (fun k e => by cases e; exact hbase)
 have b3 := below_drew b2
 have b4 := b3.grown (setCells_grown _ w.heap.size ((i + 1) * 2) ((own cur (n * 2)).drop (i * 2))) (Nat.le_trans hbase b3.size) (fun k e => by cases e; exact hbase)
 have HE := Aside0.mk (And.intro hR3'.rd b4)
 have hzr' : (Builtin.append_ #[129, 3] 129 #[.slice (some ⟨g, 0, none⟩) i cap, .int .i64 ((n : Int) + 1 - (i : Int))]).run Tryz.prog w = .ok (.slice (some ⟨w.heap.size, 0, none⟩) (n + 1) gs) W1 := by
  rw [show ((n : Int) + 1 - (i : Int)) = ((n + 1 - i : Nat) : Int) by omega]
  exact hzr
 have HZ := Aside0.mk hzr'
 have hic : (i : Int) ≤ (cap : Int) := by have := h.le; omega
 have hcapi : ¬ cap = i := by have := h.le; omega
 clear hzr hzr' h hb hx hok hbase hinf hz hs hby hgs hW1 hR3 hR3' hC0 hC0s hone k1 k2 k2s hB1 b1 b2 b3 b4 hc2 hold hmx hzs hcx hvl hgl
 have hmix : Tryz.prog.follows Departure.mixedOrders = true := by kernel_rfl
 have hg1 : ¬ (gs = i) := by omega
 have hg2 : ¬ (gs = i + 1) := by omega
 have hu := Tryz.underlying119
 have hi0 : (0 : Int) ≤ (i : Int) := by omega
 have hi1 : (i : Int) ≤ (n : Int) := by omega
 have hi2 : (i : Int) ≤ (n : Int) + 1 := by omega
 have hi3 : (i : Int) + 1 ≤ (n : Int) + 1 := by omega
 have hi4 : (0 : Int) ≤ (i : Int) + 1 := by omega
 have hi5 : ((i : Int) + 1).toNat = i + 1 := by omega
 have hi6 : IntKind.i64.wrap ((i : Int) + 1) = (i : Int) + 1 := by rw [IntKind.wrap_i64]; omega
 have hi7 : n + 1 - (i + 1) = n - i := by omega
 have h0 : ((i : Int) == (n : Int)) = false := by rw [beq_eq_false_iff_ne]; omega
 go_enter Tryz.func152, Tryz.ntmps152
 go_wp2_with ((with_reducible refine gate_builtin (b := .append) (xs := #[.tmp 34, .tmp 39]) rfl ?_); at_builtin; refine wpList_append_run rfl (.tmp 34) (.tmp 39) 129 3 rfl rfl rfl HZ.out ?_)
 go_region_law_o (refine step_copy_runI rfl _ _ 129 129 rfl (.slice (some ⟨w.heap.size, (i + 1) * 2, none⟩) (n - i) (gs - (i + 1))) (.slice (some ⟨g, i * 2, none⟩) (n - i) (cap - i)) (by simp [Act.eval, Act.put]) (by simp [Act.eval, Act.put]) HC2.out ?_)
 go_wp2
 go_ret
 exact ⟨_, rfl, Kd.V_mono HE.out.1 (fun k hk => hk.imp id (fun e => by omega)), HE.out.2⟩
set_option maxRecDepth 100000 in
set_option maxHeartbeats 6400000 in
theorem insert_room {ok' : Nat → Prop} (w : World) (base g n cap i : Nat) (ok : Nat → Prop) (l : List T) (cur : Array Value) (x : T) (cx : List Value) (vb t : Nat) (h : Row k119 w ok g 119 n cap l cur) (hl : n ≤ 100) (hi : i < n) (hroom : n + 1 ≤ cap) (hb : w.heap[vb]? = some (.cells cx.toArray t (0, 0))) (hx : Kd.FK k119 w ok x cx) (hvb : vb ≠ g) (hbg : base ≤ g) (hokg : ok' g) (hoks : ∀ k, ok k → ok' k) (hbase : base ≤ w.heap.size) :
  Calls Tryz.prog 152 #[.slice (some ⟨g, 0, none⟩) n cap, .int .i64 i, .slice (some ⟨vb, 0, none⟩) 1 1] w (Ins w base ok' (l.take i ++ [x] ++ l.drop i)) := by
 have hgl : g < w.heap.size := blk_lt h.heap
 have hvl : vb < w.heap.size := blk_lt hb
 have hcx : cx.length = 2 := k119.K_len (Kd.FK_now hx)
 have hcs : cur.size = cap * 2 := h.size
 have hone := own_one h
 have hov : ∀ n c, (callFunc 183 #[.slice (some ⟨vb, 0, none⟩) 1 1, .slice (some ⟨g, (i + 1) * 2, none⟩) n c]).run Tryz.prog w = .ok (.value (.bool false)) w := fun n c => by
  rw [run_callFunc_extern Tryz.func183 (by kernel_rfl) (by kernel_rfl) (by kernel_rfl) (e := Extern.SlicesOverlaps.overlaps #[129, 129] #[4]) (by kernel_rfl),
   Lib.run_overlaps_apart (P := Tryz.prog) w 129 4 119 Tryz.underlying129 2 (fun w => by
    obtain ⟨i, hi, _, hs, _⟩ := info
    simp [sizeOf, typeInfo, hi, hs]) ⟨vb, 0, none⟩ ⟨g, (i + 1) * 2, none⟩ 1 1 n c hvb t 119 cx.toArray.size cur.size (by simp [World.shape?, hb]) (by simp [World.shape?, h.heap]) (by omega) (blk_frozen hb 0) (blk_frozen hb cx.toArray.size)]
  rfl
 obtain ⟨cur3, hR3⟩ := room_row (i := i) (x := x) (cx := cx) h (by omega) hroom hx
 have hR3' : Row k119 ((w.drew.setCells g ((i + 1) * 2) ((own cur (n * 2)).drop (i * 2))).setCells g (i * 2) cx) ok g 119 (n + 1) cap (l.take i ++ [x] ++ l.drop i) cur3 := hR3
 have hold : ((own cur (n * 2)).drop (i * 2)).length = (n - i) * 2 := by rw [List.length_drop, own_len h (n * 2) (Nat.le_refl _)]; omega
 have atw : ∀ j, j < cap * 2 → (w.cell? ⟨g, j, none⟩).isSome = true := fun j hj => h.cell j hj
 have hc1 := run_copy_rows (P := Tryz.prog) w.drew 129 129 3 119 2 g ((i + 1) * 2) (n - i) (cap - (i + 1)) ⟨g, i * 2, none⟩ (n + 1 - i) (cap - i) (n - i) ((own cur (n * 2)).drop (i * 2)) Tryz.underlying129 size_T (by show n - i = min (n + 1 - i) (n - i); omega) hold
  (fun j v hj => by
   rw [Addr.add_lit]
   rw [List.getElem?_drop] at hj
   exact own_cell h _ _ v hj)
  (fun j hj => by rw [hold] at hj; exact atw _ (by omega))
  (fun j _ => h.thaw _) (fun v hv => hone v (List.mem_of_mem_drop hv))
 have hc2 := run_copy_rows (P := Tryz.prog) (w.drew.setCells g ((i + 1) * 2) ((own cur (n * 2)).drop (i * 2))) 129 129 3 119 2 g (i * 2) (n + 1 - i) (cap - i) ⟨vb, 0, none⟩ 1 1 1 cx Tryz.underlying129 size_T (by show 1 = min 1 (n + 1 - i); omega) (by rw [hcx])
  (fun j v hj => by
   rw [Addr.add_lit, Nat.zero_add, World.cell?_setCells_out _ _ _ _ _ (fun e _ => absurd e hvb)]
   show w.cell? _ = _
   rw [blk_cell hb j]
   simpa using hj)
  (fun j hj => by
   rw [hcx] at hj
   rw [World.cell?_setCells_out _ _ _ _ _ (fun _ _ => .inl (by show i * 2 + j < (i + 1) * 2; omega))]
   exact atw _ (by omega))
  (fun j _ => by rw [World.frozen?_setCells]; exact h.thaw _) (k119.K_one (Kd.FK_now hx))
 rw [show (goInt ((1 : Nat) : Int)) = .int .i64 1 from rfl] at hc2
 have b1 : Below base w w.drew := below_drew (Below.refl _ _)
 have b2 := b1.grown (setCells_grown w.drew g ((i + 1) * 2) ((own cur (n * 2)).drop (i * 2))) hbase (fun k e => by cases e; exact hbg)
 have b3 := b2.grown (setCells_grown _ g (i * 2) cx) (Nat.le_trans hbase b2.size) (fun k e => by cases e; exact hbg)
 have HE := Aside0.mk (And.intro hR3'.rd b3)
 have HC1 := Aside0.mk hc1
 have HOG := Aside0.mk (And.intro hokg hoks)
 have hmix : Tryz.prog.follows Departure.mixedOrders = true := by kernel_rfl
 clear h hb hx hone hR3 hR3' hold atw hc1 b1 b2 b3 hcx hcs hvl hgl hokg hoks hbase hbg
 have hu := Tryz.underlying119
 have hg1 : ¬ (cap = i) := by omega
 have hg2 : ¬ (cap = i + 1) := by omega
 have hg3 : ¬ (cap < n + 1) := by omega
 have hg4 : (0 : Int) ≤ (n : Int) + 1 := by omega
 have hg5 : (n : Int) + 1 ≤ (cap : Int) := by omega
 have hg6 : ((n : Int) + 1).toNat = n + 1 := by omega
 have hi0 : (0 : Int) ≤ (i : Int) := by omega
 have hi1 : (i : Int) ≤ (n : Int) := by omega
 have hi2 : (i : Int) ≤ (n : Int) + 1 := by omega
 have hi3 : (i : Int) + 1 ≤ (n : Int) + 1 := by omega
 have hi4 : (0 : Int) ≤ (i : Int) + 1 := by omega
 have hi5 : ((i : Int) + 1).toNat = i + 1 := by omega
 have hi6 : IntKind.i64.wrap ((i : Int) + 1) = (i : Int) + 1 := by rw [IntKind.wrap_i64]; omega
 have hi7 : n + 1 - (i + 1) = n - i := by omega
 have hi8 : (i : Int) + 1 ≤ (n : Int) := by omega
 have h0 : ((i : Int) == (n : Int)) = false := by rw [beq_eq_false_iff_ne]; omega
 go_enter Tryz.func152, Tryz.ntmps152
 go_wp2
 go_region_law_o (refine step_copy_runI rfl _ _ 129 129 rfl (.slice (some ⟨g, (i + 1) * 2, none⟩) (n - i) (cap - (i + 1))) (.slice (some ⟨g, i * 2, none⟩) (n + 1 - i) (cap - i)) (by simp [Act.eval, Act.put]) (by simp [Act.eval, Act.put]) HC1.out ?_)
 go_wp2
 go_ret
 refine ⟨_, rfl, Kd.V_mono HE.out.1 ?_, HE.out.2⟩
 rintro k (hk | rfl)
 ·exact .inl (HOG.out.2 k hk)
 ·exact .inl HOG.out.1
theorem insert_any (w : World) (base i : Nat) (ok okp : Nat → Prop) (v : Value) (l : List T) (x : T) (cx : List Value) (vb t : Nat) (h : Kd.N k119 119 w base ok v l) (hl : l.length ≤ 100) (hi : i ≤ l.length) (hb : w.heap[vb]? = some (.cells cx.toArray t (0, 0))) (hx : Kd.FK k119 w okp x cx) (hok : ∀ k, okp k ∨ k = vb → ok k ∧ some k ≠ v.ownBlock) (hbase : base ≤ w.heap.size) :
  Calls Tryz.prog 152 #[v, .int .i64 i, .slice (some ⟨vb, 0, none⟩) 1 1] w (Ins w base ok (l.take i ++ [x] ++ l.drop i)) := by
 by_cases he : i = l.length
 ·subst he
  rw [List.take_length, List.drop_length, List.append_nil]
  exact insert_end w base ok okp v l x cx vb t h hl hb hx hok hbase
 ·have hbd := Kd.N_bound h
  obtain ⟨g, cap, rfl, hg, hgl, -⟩ := Kd.N_form hbd (by omega)
  obtain ⟨_, cur, hR⟩ := Row.of_N hbd
  have hog : ok g := h.1 g rfl
  have hx2 : Kd.FK k119 w (fun k => (ok k ∧ k < w.heap.size) ∧ k ≠ g) x cx := Kd.FK_mono (Kd.FK_bound hx) (fun k hk => ⟨⟨(hok k (.inl hk.1)).1, hk.2⟩, fun e => (hok k (.inl hk.1)).2 (by rw [e]; rfl)⟩)
  by_cases hroom : l.length + 1 ≤ cap
  ·exact insert_room (ok' := ok) w base g l.length cap i _ l cur x cx vb t hR hl (by omega) hroom hb hx2 (fun e => (hok vb (.inr rfl)).2 (by rw [e]; rfl)) hg hog (fun k hk => hk.1.1) hbase
  ·refine (insert_grow w base g l.length cap i _ l cur x cx vb t hR hl (by omega) (by omega) hb hx2 (fun k hk => hk.1.2) hbase).mono ?_
   rintro e w' ⟨v', h1, h2, h3⟩
   exact ⟨v', h1, Kd.V_mono h2 (fun k hk => hk.imp (fun h => h.1.1) id), h3⟩
end Go.Proofs.YtpccbmechgkogaaGreatDoor.InsP
