/-
  THE PURE STATEMENT of ChainKeeps: what was laid with On is found by its ID as long as nobody takes it away; the latest is what was put last.
-/
import Derived.Test.YtldmidoemcdaaaaChKeepsD
import Derived.Test.YtldmidoemcdaaaaPxOpens
import Derived.Test.YtldmidoemcdaaaaChOrd
import Derived.Test.YtldmidoemcdaaaaChFew
import Derived.Test.YtldmidoemcdaaaaChFn
import Derived.Test.YtldmidoemcdaaaaChMap
set_option linter.unusedVariables false
set_option linter.unusedSimpArgs false
namespace Go.Proofs.Ytldmidoemcdaaaa.Pure
open Go.RowKit Go.Proofs.Ytldmidoemcdaaaa Go.Proofs.Ytldmidoemcdaaaa.P Go.Proofs.YtldmidoemcdaaaaW.PrintWords Go.Proofs.YtldmidoemcdaaaaW.PrintLast Go.Proofs.YtldmidoemcdaaaaW.PrintMore Go.Proofs.Ytldmidoemcdaaaa.PureKit Go.Proofs.Ytldmidoemcdaaaa.ChSpec Go.Proofs.Ytldmidoemcdaaaa.ChFew Go.Proofs.Ytldmidoemcdaaaa.ChOrd Go.Proofs.Ytldmidoemcdaaaa.ChFn Go.Proofs.Ytldmidoemcdaaaa.ChChk

abbrev KT := S42
theorem rdK {l pre rest : List KT} {v : KT} (h : l = pre ++ v :: rest) : rd_T42 l (pre.length : Int) = v := by
  subst h
  simp [rd_T42]
/-- What holds ahead of act i. -/
structure St (i : Int) (c laid : List V) : Prop where
  chain : chainB c = true
  ids : ∀ y ∈ c, 0 ≤ y.f0 ∧ y.f0 ≤ i
  ats : ∀ y ∈ c, y.f3 < i
  held : ∀ x ∈ laid, x.f0 ≠ 0 ∧ c.find? (fun y => y.f0 == x.f0) = some x
  few : (laid.length : Int) ≤ i
section
variable {i : Int} {c laid : List V}
theorem St.next (h : St i c laid) : St (i + 1) c laid :=
  ⟨h.chain, fun y hy => ⟨(h.ids y hy).1, by have := (h.ids y hy).2; omega⟩, fun y hy => by have := h.ats y hy; omega, h.held, by have := h.few; omega⟩
theorem St.laidAt (h : St i c laid) : ChMap.laidAt c laid = some true := by
  unfold ChMap.laidAt
  congr 1
  rw [List.all_eq_true]
  intro x hx
  have h2 := (h.held x hx).2
  have : (findF c x.f0).1 = x := by
    unfold findF atF
    rw [if_pos h.chain, h2]
  rw [this]
  exact (eqV_iff x x).2 rfl
theorem St.elder (h : St i c laid) {y : V} (h3 : y.f3 = i) {m : List V} (hm : m.Sublist c) : elder m y = false := by
  cases m with
  | nil => rfl
  | cons z zs =>
    have := h.ats z (hm.subset (by simp))
    simp [ChSpec.elder]
    omega
theorem find_kept (l : List V) {id : Int} (h0 : id ≠ 0) : (withoutL l 0).find? (fun y => y.f0 == id) = l.find? (fun y => y.f0 == id) := by
  unfold withoutL
  induction l with
  | nil => rfl
  | cons z zs ih =>
    by_cases hz : z.f0 = 0
    · rw [List.filter_cons_of_neg (by simp [hz]), ih, List.find?_cons_of_neg (by simp [hz]; omega)]
    · rw [List.filter_cons_of_pos (by simp [hz])]
      by_cases he : z.f0 = id
      · rw [List.find?_cons_of_pos (by simp [he]), List.find?_cons_of_pos (by simp [he])]
      · rw [List.find?_cons_of_neg (by simp [he]), List.find?_cons_of_neg (by simp [he]), ih]
theorem St.ahead (h : St i c laid) (hi : 0 ≤ i) {y : V} (h3 : y.f3 = i) (hm : mayB y = true) (h0 : y.f0 = i + 1) :
    (20 ≤ c.length ∧ putF c 1 y = ([], 6)) ∨ (putF c 1 y = (y :: c, 0) ∧ St (i + 1) (y :: c) (laid ++ [y])) := by
  have hel := h.elder h3 (List.Sublist.refl c)
  have hl : layF c 1 y = (y :: c, 0) := by
    unfold layF aheadF
    rw [if_pos rfl, if_neg (by omega), if_neg]
    rw [Bool.not_eq_true, List.any_eq_false]
    intro z hz
    have := (h.ids z hz).2
    simp
    omega
  unfold putF
  rw [if_pos ⟨h.chain, .inr (.inl rfl), hm, hel⟩, hl]
  rw [if_neg (by simp)]
  by_cases h20 : (y :: c).length > 20
  · rw [if_pos h20]
    exact .inl ⟨by simp at h20; omega, rfl⟩
  · rw [if_neg h20]
    refine .inr ⟨rfl, ⟨chain_ahead (fun u hu => (h.ids u hu).1) (by omega) h.chain hm hel (by simp at h20; omega) (fun u hu => .inr (.inr (by have := (h.ids u hu).2; omega))), fun z hz => ?_, fun z hz => ?_, fun x hx => ?_, ?_⟩⟩
    · rcases List.mem_cons.1 hz with rfl | hz
      · omega
      · have := h.ids z hz; omega
    · rcases List.mem_cons.1 hz with rfl | hz
      · omega
      · have := h.ats z hz; omega
    · rcases List.mem_append.1 hx with hx | hx
      · obtain ⟨h1, h2⟩ := h.held x hx
        have hc := (h.ids x (List.mem_of_find?_eq_some h2)).2
        refine ⟨h1, ?_⟩
        rw [List.find?_cons_of_neg (by simp; omega), h2]
      · simp at hx
        subst hx
        exact ⟨by omega, by rw [List.find?_cons_of_pos (by simp)]⟩
    · have := h.few
      simp
      omega
theorem St.over (h : St i c laid) (hi : 0 ≤ i) {y : V} {s : Int} (hs : s = 0 ∨ s = 2) (h3 : y.f3 = i) (hm : mayB y = true) :
    (20 ≤ c.length ∧ putF c s y = ([], 6)) ∨ (putF c s y = ({ y with f0 := 0 } :: withoutL c 0, 0) ∧ St (i + 1) ({ y with f0 := 0 } :: withoutL c 0) laid) := by
  have hel := h.elder h3 (List.Sublist.refl c)
  have hl : layF c s y = ({ y with f0 := 0 } :: withoutL c 0, 0) := by
    unfold layF overF
    rw [if_neg (by omega)]
  have hm0 : mayB { y with f0 := 0 } = true := by
    unfold mayB at hm ⊢
    simp only [Bool.and_eq_true, decide_eq_true_eq] at hm ⊢
    exact ⟨⟨⟨⟨by omega, hm.1.1.1.2⟩, hm.1.1.2⟩, hm.1.2⟩, hm.2⟩
  have hsub := without_sub c 0
  unfold putF
  rw [if_pos ⟨h.chain, by omega, hm, hel⟩, hl]
  rw [if_neg (by simp)]
  by_cases h20 : (({ y with f0 := 0 } : V) :: withoutL c 0).length > 20
  · rw [if_pos h20]
    have := hsub.length_le
    exact .inl ⟨by simp at h20; omega, rfl⟩
  · rw [if_neg h20]
    refine .inr ⟨rfl, ⟨chain_ahead (fun u hu => (h.ids u (hsub.subset hu)).1) (Int.le_refl 0) (chain_sub (fun u hu => (h.ids u hu).1) hsub h.chain) hm0 (h.elder (y := { y with f0 := 0 }) h3 hsub) (by simp at h20; omega) (fun u hu => .inr (.inl ⟨(without_mem.1 hu).2, rfl⟩)), fun z hz => ?_, fun z hz => ?_, fun x hx => ?_, by have := h.few; omega⟩⟩
    · rcases List.mem_cons.1 hz with rfl | hz
      · exact ⟨Int.le_refl 0, by show (0 : Int) ≤ i + 1; omega⟩
      · have := h.ids z (hsub.subset hz); omega
    · rcases List.mem_cons.1 hz with rfl | hz
      · show y.f3 < i + 1
        omega
      · have := h.ats z (hsub.subset hz); omega
    · obtain ⟨h1, h2⟩ := h.held x hx
      refine ⟨h1, ?_⟩
      rw [List.find?_cons_of_neg (by simp; omega), find_kept c h1, h2]
theorem St.dropped (h : St i c laid) : dropF c 0 = ([], 4) ∨ (dropF c 0 = (withoutL c 0, 0) ∧ St (i + 1) (withoutL c 0) laid) := by
  have hsub := without_sub c 0
  unfold dropF
  rw [if_pos h.chain]
  by_cases ha : c.any (fun x => x.f0 == 0) = true
  · rw [if_pos ha]
    refine .inr ⟨rfl, ⟨chain_sub (fun u hu => (h.ids u hu).1) hsub h.chain, fun z hz => ?_, fun z hz => ?_, fun x hx => ?_, by have := h.few; omega⟩⟩
    · have := h.ids z (hsub.subset hz); omega
    · have := h.ats z (hsub.subset hz); omega
    · obtain ⟨h1, h2⟩ := h.held x hx
      exact ⟨h1, by rw [find_kept c h1, h2]⟩
  · rw [if_neg ha]
    exact .inl rfl
end
section
variable {L pre rest : List KT} {a : KT} {c laid : List V} {s : Int}
theorem keeps_j3 (ih : Ev (fun k => cellarerlaw05_ChainKeeps.l0 k L c laid (wrap64 ((pre.length : Int) + 1))) true) : Ev (fun k => cellarerlaw05_ChainKeeps.j3 k L c laid (pre.length : Int) false) true := by
  refine ev_succ ?_
  simp only [cellarerlaw05_ChainKeeps.j3]
  exact ev_neg (by simp) ih
theorem keeps_good {laid' next : List V} {id' : Int} {data : ByteArray} {mark : Bool} (h : L = pre ++ a :: rest) (hs : s = 0 ∨ s = 1 ∨ s = 2)
    (hl : laid' = if s = 1 then laid ++ [⟨(pre.length : Int) + 1, data, mark, (pre.length : Int)⟩] else laid) (hid : id' = if s = 1 then (pre.length : Int) + 1 else 0)
    (hh : (s = 0 ∧ a.f1 = true) ∨ next.head? = some ⟨id', data, mark, (pre.length : Int)⟩) (hst : St ((pre.length : Int) + 1) next laid') (hlen : laid.length ≤ 1000)
    (ih : Ev (fun k => cellarerlaw05_ChainKeeps.l0 k L next laid' (wrap64 ((pre.length : Int) + 1))) true) :
    Ev (fun k => cellarerlaw05_ChainKeeps.j2 k L c laid (pre.length : Int) s next 0 ((pre.length : Int) + 1) data mark (pre.length : Int)) true := by
  have hlL : L.length = pre.length + rest.length + 1 := by rw [h]; simp; omega
  have hj7 : Ev (fun k => cellarerlaw05_ChainKeeps.j7 k L laid' (pre.length : Int) next) true := by
    refine ev_succ ?_
    simp only [cellarerlaw05_ChainKeeps.j7]
    refine ev_is hst.laidAt (ev_pos rfl (ev_bind (check_is next) ?_))
    exact ev_pos (by rw [if_pos hst.chain]) ih
  have hj6 : ∀ b, (b = true → next.head? = some ⟨id', data, mark, (pre.length : Int)⟩) → Ev (fun k => cellarerlaw05_ChainKeeps.j6 k L laid' (pre.length : Int) next (getF next).2 b id' data mark (pre.length : Int) (getF next).1.f0 (getF next).1.f1 (getF next).1.f2 (getF next).1.f3) true := by
    intro b hb
    refine ev_succ ?_
    simp only [cellarerlaw05_ChainKeeps.j6]
    cases b with
    | false => exact ev_neg (by simp) hj7
    | true =>
      have hg : getF next = (⟨id', data, mark, (pre.length : Int)⟩, if mark = true then 13 else 0) := by
        unfold getF atF
        rw [if_pos hst.chain, hb rfl]
      rw [hg]
      exact ev_pos rfl (ev_neg (by simp) (ev_neg (by cases mark <;> simp) hj7))
  have hj5 : Ev (fun k => cellarerlaw05_ChainKeeps.j5 k L laid' (pre.length : Int) s next id' data mark (pre.length : Int)) true := by
    refine ev_succ ?_
    simp only [cellarerlaw05_ChainKeeps.j5, rdK h]
    refine ev_bind (get_is next) ?_
    by_cases h0 : s = 0
    · refine ev_pos h0 (ev_pos (by omega) (ev_pos (by omega) (hj6 _ fun hb => ?_)))
      rcases hh with ⟨_, h1⟩ | h1
      · rw [h1] at hb
        cases hb
      · exact h1
    · refine ev_neg h0 (hj6 _ fun _ => ?_)
      rcases hh with ⟨h1, _⟩ | h1
      · exact absurd h1 h0
      · exact h1
  have hj4 : Ev (fun k => cellarerlaw05_ChainKeeps.j4 k L laid' (pre.length : Int) s next ((pre.length : Int) + 1) data mark (pre.length : Int)) true := by
    refine ev_succ ?_
    simp only [cellarerlaw05_ChainKeeps.j4]
    by_cases h1 : s = 1
    · rw [if_pos h1] at hid
      rw [hid] at hj5
      exact ev_pos h1 hj5
    · rw [if_neg h1] at hid
      rw [hid] at hj5
      exact ev_neg h1 hj5
  refine ev_succ ?_
  simp only [cellarerlaw05_ChainKeeps.j2]
  refine ev_pos (by trivial) ?_
  by_cases h1 : s = 1
  · rw [if_pos h1] at hl
    rw [hl] at hj4
    exact ev_pos h1 (ev_pos (by omega) hj4)
  · rw [if_neg h1] at hl
    rw [hl] at hj4
    exact ev_neg h1 hj4
theorem keeps_full {next : List V} {id at_ : Int} {data : ByteArray} {mark : Bool} (h20 : 20 ≤ c.length)
    (ih : Ev (fun k => cellarerlaw05_ChainKeeps.l0 k L c laid (wrap64 ((pre.length : Int) + 1))) true) :
    Ev (fun k => cellarerlaw05_ChainKeeps.j2 k L c laid (pre.length : Int) s next 6 id data mark at_) true := by
  refine ev_succ ?_
  simp only [cellarerlaw05_ChainKeeps.j2]
  exact ev_neg (by decide) (ev_pos (by trivial) (ev_neg (by omega) (ev_neg (by decide) (ev_neg (by decide) (keeps_j3 ih)))))
theorem keeps_none {next : List V} {id at_ : Int} {data : ByteArray} {mark : Bool} (h : L = pre ++ a :: rest) (ha : a.f1 = true)
    (ih : Ev (fun k => cellarerlaw05_ChainKeeps.l0 k L c laid (wrap64 ((pre.length : Int) + 1))) true) :
    Ev (fun k => cellarerlaw05_ChainKeeps.j2 k L c laid (pre.length : Int) s next 4 id data mark at_) true := by
  have hlL : L.length = pre.length + rest.length + 1 := by rw [h]; simp; omega
  refine ev_succ ?_
  simp only [cellarerlaw05_ChainKeeps.j2, rdK h]
  exact ev_neg (by decide) (ev_neg (by decide) (ev_pos (by trivial) (ev_pos (by omega) (ev_pos (by omega) (ev_pos ha (ev_neg (by decide) (keeps_j3 ih)))))))
theorem keeps_bad {next : List V} {id at_ : Int} {data : ByteArray} {mark : Bool} (hd : ¬ (data.size : Int) ≤ 2000)
    (ih : Ev (fun k => cellarerlaw05_ChainKeeps.l0 k L c laid (wrap64 ((pre.length : Int) + 1))) true) :
    Ev (fun k => cellarerlaw05_ChainKeeps.j2 k L c laid (pre.length : Int) s next 1 id data mark at_) true := by
  refine ev_succ ?_
  simp only [cellarerlaw05_ChainKeeps.j2]
  refine ev_neg (by decide) (ev_neg (by decide) (ev_neg (by decide) (ev_pos (by trivial) ?_)))
  rw [decide_eq_false hd]
  exact keeps_j3 ih
end
theorem keeps_loop (L : List KT) (hL : ∀ x ∈ L, 0 ≤ x.f0 ∧ x.f0 ≤ 255) : ∀ (rest pre : List KT) (c laid : List V), L = pre ++ rest → pre.length ≤ 30 → St (pre.length : Int) c laid →
    Ev (fun k => cellarerlaw05_ChainKeeps.l0 k L c laid (pre.length : Int)) true
  | [], pre, c, laid, h, hp, hc => by
    refine ev_succ ?_
    simp only [cellarerlaw05_ChainKeeps.l0]
    refine ev_neg (by rw [h]; simp) (ev_succ ?_)
    simp only [cellarerlaw05_ChainKeeps.j1]
    exact ev_neg (by simp) (ev_is (x := true) rfl (ev_now _))
  | a :: rest, pre, c, laid, h, hp, hc => by
    have hlen : L.length = pre.length + rest.length + 1 := by rw [h]; simp; omega
    have hid : IntKind.u64.wrap (wrap64 ((pre.length : Int) + 1)) = (pre.length : Int) + 1 := by
      rw [wrap_id (by omega) (by omega)]
      simp [IntKind.wrap, IntKind.signed, IntKind.bits]
      omega
    have hst : wrap64 (Int.tmod a.f0 3) = 0 ∨ wrap64 (Int.tmod a.f0 3) = 1 ∨ wrap64 (Int.tmod a.f0 3) = 2 := by
      obtain ⟨h1, h2⟩ := hL a (by simp [h])
      rw [Int.tmod_eq_emod_of_nonneg h1, wrap_id (by omega) (by omega)]
      omega
    refine ev_succ ?_
    simp only [cellarerlaw05_ChainKeeps.l0]
    refine ev_pos (by omega) (ev_succ ?_)
    simp only [cellarerlaw05_ChainKeeps.j1, rdK h, hid]
    generalize wrap64 (Int.tmod a.f0 3) = s at hst
    have hsw : (Lit.int .i64 s).wf = true := by rcases hst with rfl | rfl | rfl <;> decide
    by_cases h30 : (pre.length : Int) < 30
    · have ih : ∀ c' laid' : List V, St ((pre.length : Int) + 1) c' laid' → Ev (fun k => cellarerlaw05_ChainKeeps.l0 k L c' laid' (wrap64 ((pre.length : Int) + 1))) true := fun c' laid' hc' => by
        have := keeps_loop L hL rest (pre ++ [a]) c' laid' (by simp [h]) (by simp; omega) (by simpa using hc')
        rw [wrap_id (by omega) (by omega)]
        simpa using this
      have hnx := ih c laid hc.next
      have hfew : laid.length ≤ 1000 := by have := hc.few; omega
      refine ev_pos (by simpa using h30) (ev_pos (by omega) (ev_pos (by omega) (ev_is (one_is ⟨(pre.length : Int) + 1, a.f2, false, (pre.length : Int)⟩) ?_)))
      cases hdel : a.f1 with
      | true =>
        have hme : mayB ⟨(pre.length : Int) + 1, (⟨#[]⟩ : ByteArray), true, (pre.length : Int)⟩ = true := by
          have e0 : (ByteArray.toList (⟨#[]⟩ : ByteArray)) = [] := by rw [ByteArray.toList_eq]
          have e1 : ((⟨#[]⟩ : ByteArray).size : Int) = 0 := rfl
          simp [mayB, e0, e1]
          omega
        have hme0 : mayB ⟨0, (⟨#[]⟩ : ByteArray), true, (pre.length : Int)⟩ = true := by
          have e0 : (ByteArray.toList (⟨#[]⟩ : ByteArray)) = [] := by rw [ByteArray.toList_eq]
          have e1 : ((⟨#[]⟩ : ByteArray).size : Int) = 0 := rfl
          simp [mayB, e0, e1]
          omega
        refine ev_pos rfl (ev_bind (del_is c s ((pre.length : Int) + 1) (pre.length : Int) hsw) ?_)
        rcases hst with rfl | rfl | rfl
        · rw [show delF c 0 ((pre.length : Int) + 1) (pre.length : Int) = dropF c 0 from if_pos rfl]
          rcases hc.dropped with h1 | ⟨h1, h2⟩
          · rw [h1]
            exact keeps_none h hdel hnx
          · rw [h1]
            exact keeps_good (laid' := laid) (id' := 0) h (.inl rfl) rfl rfl (.inl ⟨rfl, hdel⟩) h2 hfew (ih _ _ h2)
        · rw [show delF c 1 ((pre.length : Int) + 1) (pre.length : Int) = putF c 1 ⟨(pre.length : Int) + 1, (⟨#[]⟩ : ByteArray), true, (pre.length : Int)⟩ from rfl]
          rcases hc.ahead (by omega) (y := ⟨(pre.length : Int) + 1, (⟨#[]⟩ : ByteArray), true, (pre.length : Int)⟩) rfl hme rfl with ⟨h1, h2⟩ | ⟨h1, h2⟩
          · rw [h2]
            exact keeps_full h1 hnx
          · rw [h1]
            exact keeps_good (id' := (pre.length : Int) + 1) h (.inr (.inl rfl)) rfl rfl (.inr rfl) h2 hfew (ih _ _ h2)
        · rw [show delF c 2 ((pre.length : Int) + 1) (pre.length : Int) = putF c 2 ⟨0, (⟨#[]⟩ : ByteArray), true, (pre.length : Int)⟩ from rfl]
          rcases hc.over (by omega) (y := ⟨0, (⟨#[]⟩ : ByteArray), true, (pre.length : Int)⟩) (.inr rfl) rfl hme0 with ⟨h1, h2⟩ | ⟨h1, h2⟩
          · rw [h2]
            exact keeps_full h1 hnx
          · rw [h1]
            exact keeps_good (laid' := laid) (id' := 0) h (.inr (.inr rfl)) rfl rfl (.inr rfl) h2 hfew (ih _ _ h2)
      | false =>
        refine ev_neg (by simp) ?_
        have hx0 : (cutV ⟨(pre.length : Int) + 1, a.f2, false, (pre.length : Int)⟩).f0 = (pre.length : Int) + 1 := rfl
        have hx3 : (cutV ⟨(pre.length : Int) + 1, a.f2, false, (pre.length : Int)⟩).f3 = (pre.length : Int) := rfl
        have hx2 : (cutV ⟨(pre.length : Int) + 1, a.f2, false, (pre.length : Int)⟩).f2 = false := rfl
        generalize cutV ⟨(pre.length : Int) + 1, a.f2, false, (pre.length : Int)⟩ = x at hx0 hx3 hx2
        have hp' := put_is c s x hsw
        rw [hx0, hx2, hx3] at hp'
        refine ev_is hp' ?_
        have hxe : x = ⟨(pre.length : Int) + 1, x.f1, false, (pre.length : Int)⟩ := by
          cases x
          simp only at hx0 hx2 hx3
          subst hx0 hx2 hx3
          rfl
        by_cases hm : mayB x = true
        · rcases hst with rfl | rfl | rfl
          · rcases hc.over (by omega) (.inl rfl) hx3 hm with ⟨h1, h2⟩ | ⟨h1, h2⟩
            · rw [h2]
              exact keeps_full h1 hnx
            · rw [h1]
              refine keeps_good (laid' := laid) (id' := 0) h (.inl rfl) rfl rfl (.inr ?_) h2 hfew (ih _ _ h2)
              simp [hx2, hx3]
          · rcases hc.ahead (by omega) hx3 hm hx0 with ⟨h1, h2⟩ | ⟨h1, h2⟩
            · rw [h2]
              exact keeps_full h1 hnx
            · rw [h1]
              refine keeps_good (id' := (pre.length : Int) + 1) (laid' := laid ++ [x]) h (.inr (.inl rfl)) ?_ rfl (.inr ?_) h2 hfew (ih _ _ h2)
              · rw [if_pos rfl, ← hxe]
              · rw [← hxe]
                rfl
          · rcases hc.over (by omega) (.inr rfl) hx3 hm with ⟨h1, h2⟩ | ⟨h1, h2⟩
            · rw [h2]
              exact keeps_full h1 hnx
            · rw [h1]
              refine keeps_good (laid' := laid) (id' := 0) h (.inr (.inr rfl)) rfl rfl (.inr ?_) h2 hfew (ih _ _ h2)
              simp [hx2, hx3]
        · have hs : ¬ (x.f1.size : Int) ≤ 2000 := fun hs => hm (by
            simp [mayB, hx0, hx2, hx3]
            omega)
          rw [show putF c s x = ([], 1) from if_neg (fun hh => hm hh.2.2.1)]
          exact keeps_bad hs hnx
    · exact ev_neg (by simpa using h30) (ev_is (x := true) rfl (ev_now _))

/-- What the law says of ChainKeeps. -/
def KeepsPure : Prop := ∀ (l0 : List (S42)), (l0.length ≤ maxLen ∧ ∀ y1_ ∈ l0, okS42 y1_) → ∃ k, cellarerlaw05_ChainKeeps.f k l0 = some true
theorem ChainKeeps : KeepsPure := by
  intro l0 hl0
  apply Ev.rounds
  refine keeps_loop l0 (fun x hx => ?_) l0 [] [] [] rfl (by simp) ⟨rfl, fun y hy => by simp at hy, fun y hy => by simp at hy, fun y hy => by simp at hy, by simp⟩
  have h1 := (hl0.2 x hx).1
  simp [Lit.wf, IntKind.min, IntKind.max, IntKind.signed, IntKind.bits] at h1
  omega
end Go.Proofs.Ytldmidoemcdaaaa.Pure
