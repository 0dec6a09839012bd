/- The walks and the plain laws of NetA, NetB. -/
import Derived.Test.YtinaliblnihpbaaGreatV21
set_option linter.unusedVariables false
set_option linter.unusedSimpArgs false
open Go.Lib (hid)
namespace Go.Proofs.YtinaliblnihpbaaGreat
namespace NetC
open Go Go.RowKit Hp Sl Ow Rw TM ParW
def Prm (w : World) (g : Nat) (v : Value) (ps : List P) : Prop :=
  ∃ cap, v = .slice (some ⟨g, 0, none⟩) ps.length cap ∧ ps.length ≤ cap ∧ g < w.heap.size ∧ ∀ i p, ps[i]? = some p → w.cell? ⟨g, i * 5, none⟩ = some (.int .u32 p.code) ∧ w.cell? ⟨g, i * 5 + 1, none⟩ = some (.int .i64 p.out) ∧ w.cell? ⟨g, i * 5 + 2, none⟩ = some (.int .i64 p.inn) ∧ w.cell? ⟨g, i * 5 + 3, none⟩ = some (.int .i64 p.watch) ∧ w.cell? ⟨g, i * 5 + 4, none⟩ = some (.int .u32 p.count)
variable {w w' : World} {g : Nat} {v : Value} {ps : List P} {p : P}
theorem Prm.kept {S : List Nat} (h : Prm w g v ps) (k : Kept S w w') (hS : g ∉ S) : Prm w' g v ps := by
  obtain ⟨cap, e, hl, hg, hc⟩ := h
  refine ⟨cap, e, hl, Nat.lt_of_lt_of_le hg k.size, fun i p hp => ?_⟩
  obtain ⟨a, b, c, d, f⟩ := hc i p hp
  exact ⟨(k.cell hg hS).trans a, (k.cell hg hS).trans b, (k.cell hg hS).trans c, (k.cell hg hS).trans d, (k.cell hg hS).trans f⟩
theorem check_call1 (p : P) (h : POk p) (w : World) : Calls Tryz.prog 55 #[pval p] w fun e w' => e = .returned (.int .i64 0) ∧ Kept [] w w' := ParW.check_call p h w
def IxRel (W : World) (n : Nat) (i : Value) (w : World) : Prop := ∃ k : Nat, k ≤ n ∧ i = .int .i64 (k : Nat) ∧ Kept [] W w
theorem clo_call (q : P) (t : Nat) (c d e f : Value) (hT : Has w t 50 [.int .u32 p.code, c, d, e, f]) :
    Calls Tryz.prog 57 #[pval q, .pointer (some ⟨t, 0, none⟩)] w fun e w' => e = .returned (.bool (q.code == p.code)) ∧ Kept [] w w' := by
  have c0 := hT.cell 0 rfl
  have HT := hid hT
  clear hT
  unfold pval
  go_enter Tryz.func57, Tryz.ntmps57
  have lt := HT.out.lt
  have n0 : t ≠ w.heap.size := by omega
  go_wp2_with fail
  go_ret
  exact ⟨rfl, (Kept.refl [] w).alloc _⟩
set_option maxRecDepth 100000 in
theorem index_call (n cap t : Nat) (hb : n ≤ 1000) (h : Prm w g v ps) (hn : n ≤ ps.length) (hc : n ≤ cap) (hT : Has w t 50 (pcells p)) (hne : ∀ i q, i < n → ps[i]? = some q → q.code ≠ p.code) :
    Calls Tryz.prog 89 #[.slice (some ⟨g, 0, none⟩) n cap, .func (.func 57) #[] #[.pointer (some ⟨t, 0, none⟩)]] w fun e w' => e = .returned (.int .i64 (-1)) ∧ Kept [] w w' := by
  have HH := hid h
  have HT := hid hT
  have NE := hid hne
  have HN := hid hn
  have hcf : ∀ (q : Value) w, (callFunc 57 #[q, .pointer (some ⟨t, 0, none⟩)]).run Tryz.prog w = .ok (.enter 57 #[q, .pointer (some ⟨t, 0, none⟩)]) w := by
    intro q w; simp [callFunc, Tryz.func57, go_sem]; rfl
  clear h hT hne hn
  go_enter Tryz.func89, Tryz.ntmps89
  go_wp2_with fail
  go_loopw [8] (IxRel w n) (fun i _ => n - (intOf i).toNat)
  case atStart => exact ⟨0, Nat.zero_le _, rfl, Kept.refl _ _⟩
  case round =>
    obtain ⟨k, hk, rfl, hK⟩ := hrel
    rename_i wr
    have KK := hid hK
    clear hK
    by_cases hlt : k < n
    · obtain ⟨q, hq⟩ : ∃ q, ps[k]? = some q := ⟨ps[k]'(by have := HN.out; omega), List.getElem?_eq_getElem _⟩
      obtain ⟨cap', _, _, hg, hcells⟩ := HH.out.kept KK.out (by simp)
      obtain ⟨a0, a1, a2, a3, a4⟩ := hcells k q hq
      have hne := NE.out k q hlt hq
      have CC := hid (clo_call q t (.int .i64 p.out) (.int .i64 p.inn) (.int .i64 p.watch) (.int .u32 p.count) (KK.out.has HT.out (by simp)))
      have eb : (q.code == p.code) = false := by simp [hne]
      rw [eb] at CC
      clear hcells hne eb hq
      unfold pval at CC
      have q3 : (k : Int) < (n : Int) := by omega
      have q4 : (0 : Int) ≤ (k : Int) := by omega
      go_wp2_with fail
      refine CC.out.mono ?_
      rintro e w2 ⟨rfl, k2⟩
      have K2 := hid (KK.out.trans k2)
      clear k2
      go_wp2_with fail
      go_roundw
      case rel => exact ⟨k + 1, by omega, by go_num, K2.out⟩
      case measure => simp [intOf]; omega
    · have e : k = n := by omega
      subst e
      go_wp2_with fail
      go_ret
      exact ⟨rfl, KK.out⟩
set_option maxRecDepth 100000 in
theorem contains_call (n cap t : Nat) (hb : n ≤ 1000) (h : Prm w g v ps) (hn : n ≤ ps.length) (hc : n ≤ cap) (hT : Has w t 50 (pcells p)) (hne : ∀ i q, i < n → ps[i]? = some q → q.code ≠ p.code) :
    Calls Tryz.prog 56 #[.slice (some ⟨g, 0, none⟩) n cap, .func (.func 57) #[] #[.pointer (some ⟨t, 0, none⟩)]] w fun e w' => e = .returned (.bool false) ∧ Kept [] w w' := by
  have IC := hid (index_call n cap t hb h hn hc hT hne)
  clear h hT hne hn hc
  go_enter Tryz.func56, Tryz.ntmps56
  go_wp2_with fail
  refine IC.out.mono ?_
  rintro e w2 ⟨rfl, k2⟩
  have K2 := hid k2
  clear k2
  go_wp2_with fail
  go_ret
  exact ⟨rfl, K2.out⟩
structure Good (ps : List P) : Prop where
  ok : ∀ p : P, p ∈ ps → POk p
  ap : ∀ (i j : Nat) (p q : P), i < j → ps[i]? = some p → ps[j]? = some q → p.code ≠ q.code
def OutR (W : World) (i : Value) (w : World) : Prop := ∃ k : Nat, k ≤ 2 ∧ i = .int .i64 (k : Nat) ∧ Kept [] W w
set_option maxRecDepth 100000 in
set_option maxHeartbeats 3200000 in
theorem check_call (g1 g2 : Nat) (v1 v2 : Value) (p1 p2 : List P) (mx : Int) (h1 : Prm w g1 v1 p1) (h2 : Prm w g2 v2 p2) (o1 : Good p1) (o2 : Good p2) (hl : p1.length = p2.length) (l1 : 1 ≤ p1.length) (l8 : p1.length ≤ 8) (hm : 0 < mx) :
    Calls Tryz.prog 26 #[.agg #[v1, v2, .int .u32 mx]] w fun e w' => e = .returned (.int .i64 0) ∧ Kept [] w w' := by
  have H1 := hid h1
  have H2 := hid h2
  have O1 := hid o1
  have O2 := hid o2
  have HL := hid (And.intro hl (And.intro l1 l8))
  obtain ⟨c1, rfl, hc1, hg1, _⟩ := h1
  obtain ⟨c2, rfl, hc2, hg2, _⟩ := h2
  have e1 : decide ((p1.length : Int) < 1) = false := by simp; omega
  have e2 : decide ((p1.length : Int) > 8) = false := by simp; omega
  have e3 : ((p2.length : Int) != (p1.length : Int)) = false := by simp; omega
  have e4 : (mx == 0) = false := by simp; omega
  clear o1 o2 hl l1 l8 hm hc1 hc2
  go_enter Tryz.func26, Tryz.ntmps26
  go_upto_block 0 with (fail)
  have K0 := hid (((Kept.refl [] w).alloc (.cells #[.slice (some ⟨g1, 0, none⟩) p1.length c1, .slice (some ⟨g2, 0, none⟩) p2.length c2, .int .u32 mx] 26)).alloc (.cells #[.slice (some ⟨g1, 0, none⟩) p1.length c1, .slice (some ⟨g2, 0, none⟩) p2.length c2] 23))
  have NB := hid ((Has.new w 26 [.slice (some ⟨g1, 0, none⟩) p1.length c1, .slice (some ⟨g2, 0, none⟩) p2.length c2, .int .u32 mx]).alloc (.cells #[.slice (some ⟨g1, 0, none⟩) p1.length c1, .slice (some ⟨g2, 0, none⟩) p2.length c2] 23))
  have AB := hid (Has.new (w.alloc (.cells #[.slice (some ⟨g1, 0, none⟩) p1.length c1, .slice (some ⟨g2, 0, none⟩) p2.length c2, .int .u32 mx] 26)) 23 [.slice (some ⟨g1, 0, none⟩) p1.length c1, .slice (some ⟨g2, 0, none⟩) p2.length c2])
  have hsz : (w.alloc (.cells #[.slice (some ⟨g1, 0, none⟩) p1.length c1, .slice (some ⟨g2, 0, none⟩) p2.length c2, .int .u32 mx] 26)).heap.size = w.heap.size + 1 := by simp
  rw [hsz] at AB
  generalize ((w.alloc (.cells #[.slice (some ⟨g1, 0, none⟩) p1.length c1, .slice (some ⟨g2, 0, none⟩) p2.length c2, .int .u32 mx] 26)).alloc (.cells #[.slice (some ⟨g1, 0, none⟩) p1.length c1, .slice (some ⟨g2, 0, none⟩) p2.length c2] 23)) = wb at K0 NB AB ⊢
  generalize w.heap.size + 1 = A at AB ⊢
  generalize w.heap.size = N at NB ⊢
  have PICK := hid (show ∀ k, k < 2 → ∃ gj cj psj, [Value.slice (some ⟨g1, 0, none⟩) p1.length c1, .slice (some ⟨g2, 0, none⟩) p2.length c2][k]? = some (.slice (some ⟨gj, 0, none⟩) psj.length cj) ∧ Prm wb gj (.slice (some ⟨gj, 0, none⟩) psj.length cj) psj ∧ Good psj ∧ psj.length ≤ 8 ∧ psj.length ≤ cj from by
    intro k hk
    have l := HL.out
    obtain rfl | rfl : k = 0 ∨ k = 1 := by omega
    · exact ⟨g1, c1, p1, rfl, H1.out.kept K0.out (by simp), O1.out, by omega, by obtain ⟨c, e, h, _⟩ := H1.out; cases e; exact h⟩
    · exact ⟨g2, c2, p2, rfl, H2.out.kept K0.out (by simp), O2.out, by omega, by obtain ⟨c, e, h, _⟩ := H2.out; cases e; exact h⟩)
  clear e1 e2 e3 e4 hsz hg1 hg2
  go_wp2_with fail
  go_loopw [42] (OutR wb) (fun i _ => 2 - (intOf i).toNat)
  case atStart => exact ⟨0, by omega, rfl, Kept.refl _ _⟩
  case round =>
    obtain ⟨k, hk, rfl, hK⟩ := hrel
    rename_i wr
    have KK := hid hK
    clear hK
    by_cases hlt : k < 2
    · obtain ⟨gj, cj, psj, hcell, hprm, hgood, hlen⟩ := PICK.out k hlt
      have PJ := hid (hprm.kept KK.out (by simp))
      have GJ := hid hgood
      have HB := hid hlen.2
      have q1 : wr.cell? ⟨A, k, none⟩ = some (.slice (some ⟨gj, 0, none⟩) psj.length cj) := (KK.out.has AB.out (by simp)).cell k hcell
      have HA8 := hid hlen.1
      clear hcell hprm hgood hlen
      have q3 : (k : Int) < 2 := by omega
      have q4 : (0 : Int) ≤ (k : Int) := by omega
      have al := (KK.out.has AB.out (by simp)).lt
      go_wp2_with fail
      clear q1 al
      go_loopw [48] (IxRel wr psj.length) (fun i _ => psj.length - (intOf i).toNat)
      case atStart => exact ⟨0, Nat.zero_le _, rfl, Kept.refl _ _⟩
      case round =>
        obtain ⟨j, hj, rfl, hK2⟩ := hrel
        rename_i wi
        have KI := hid hK2
        clear hK2
        by_cases jlt : j < psj.length
        · obtain ⟨q, hq⟩ : ∃ q, psj[j]? = some q := ⟨psj[j]'jlt, List.getElem?_eq_getElem _⟩
          obtain ⟨cap', _, _, hg, hcells⟩ := PJ.out.kept KI.out (by simp)
          have HC := hid (hcells j q hq)
          have HQ := hid hq
          have HG := hid hg
          have r3 : (j : Int) < (psj.length : Int) := by omega
          have r4 : (0 : Int) ≤ (j : Int) := by omega
          have b8 := HA8.out
          clear hcells hq hg
          obtain ⟨a0, a1, a2, a3, a4⟩ := HC.out
          have hg := HG.out
          have CC := hid (fun w => check_call1 q (GJ.out.ok q (List.mem_of_getElem? HQ.out)) w)
          unfold pval at CC
          go_wp2_with fail
          refine (CC.out _).mono ?_
          rintro e w2 ⟨rfl, k2⟩
          have K2 := hid ((KI.out.alloc (.cells #[.int .u32 q.code, .int .i64 q.out, .int .i64 q.inn, .int .i64 q.watch, .int .u32 q.count] 50)).trans k2)
          clear k2 a0 a1 a2 a3 a4 CC
          go_wp2_with fail
          refine ⟨⟨j + 1, by omega, by go_num, K2.out⟩, by simp [intOf]; omega⟩
        · have e : j = psj.length := by omega
          subst e
          go_wp2_with fail
          exact ⟨⟨k + 1, by omega, by go_num, KK.out.trans KI.out⟩, by simp [intOf]; omega⟩
    · have e : k = 2 := by omega
      subst e
      have n0 := (KK.out.has NB.out (by simp)).cell 0 rfl
      have n1 := (KK.out.has NB.out (by simp)).cell 1 rfl
      have nl := (KK.out.has NB.out (by simp)).lt
      go_upto_block 4 with (fail)
      have K3 := hid ((K0.out.trans KK.out).alloc (.cells #[.slice (some ⟨g1, 0, none⟩) p1.length c1, .slice (some ⟨g2, 0, none⟩) p2.length c2] 23))
      have AB2 := hid (Has.new wr 23 [.slice (some ⟨g1, 0, none⟩) p1.length c1, .slice (some ⟨g2, 0, none⟩) p2.length c2])
      generalize wr.alloc (.cells #[.slice (some ⟨g1, 0, none⟩) p1.length c1, .slice (some ⟨g2, 0, none⟩) p2.length c2] 23) = wc at K3 AB2 ⊢
      generalize wr.heap.size = A2 at AB2 ⊢
      clear n0 n1 nl
      have PICK2 := hid (show ∀ k, k < 2 → ∃ gj cj psj, [Value.slice (some ⟨g1, 0, none⟩) p1.length c1, .slice (some ⟨g2, 0, none⟩) p2.length c2][k]? = some (.slice (some ⟨gj, 0, none⟩) psj.length cj) ∧ Prm wc gj (.slice (some ⟨gj, 0, none⟩) psj.length cj) psj ∧ Good psj ∧ psj.length ≤ 8 ∧ psj.length ≤ cj from by
        intro k hk
        have l := HL.out
        obtain rfl | rfl : k = 0 ∨ k = 1 := by omega
        · exact ⟨g1, c1, p1, rfl, H1.out.kept K3.out (by simp), O1.out, by omega, by obtain ⟨c, e, h, _⟩ := H1.out; cases e; exact h⟩
        · exact ⟨g2, c2, p2, rfl, H2.out.kept K3.out (by simp), O2.out, by omega, by obtain ⟨c, e, h, _⟩ := H2.out; cases e; exact h⟩)
      go_wp2_with fail
      go_loopw [65] (OutR wc) (fun i _ => 2 - (intOf i).toNat)
      case atStart => exact ⟨0, by omega, rfl, Kept.refl _ _⟩
      case round =>
        obtain ⟨k, hk, rfl, hK⟩ := hrel
        have KK := hid hK
        clear hK
        by_cases hlt : k < 2
        · obtain ⟨gj, cj, psj, hcell, hprm, hgood, hlen⟩ := PICK2.out k hlt
          have PJ := hid hprm
          have GJ := hid hgood
          have HB := hid hlen.2
          have q1 := (KK.out.has AB2.out (by simp)).cell k hcell
          have HA8 := hid hlen.1
          clear hcell hprm hgood hlen
          have q3 : (k : Int) < 2 := by omega
          have q4 : (0 : Int) ≤ (k : Int) := by omega
          have al := (KK.out.has AB2.out (by simp)).lt
          go_wp2_with fail
          clear q1 al
          go_loopw [71] (IxRel wc psj.length) (fun i _ => psj.length - (intOf i).toNat)
          case atStart => exact ⟨0, Nat.zero_le _, rfl, KK.out⟩
          case round =>
            obtain ⟨j, hj, rfl, hK2⟩ := hrel
            obtain ⟨wi, hwi⟩ : ∃ z, Kept [] wc z ∧ z = _ := ⟨_, hK2, rfl⟩
            obtain ⟨_, rfl⟩ := hwi
            have KI := hid hK2
            clear hK2
            by_cases jlt : j < psj.length
            · obtain ⟨q, hq⟩ : ∃ q, psj[j]? = some q := ⟨psj[j]'jlt, List.getElem?_eq_getElem _⟩
              obtain ⟨cap', _, _, hg, hcells⟩ := PJ.out.kept KI.out (by simp)
              have HC := hid (hcells j q hq)
              have HQ := hid hq
              have HG := hid hg
              have r3 : (j : Int) < (psj.length : Int) := by omega
              have r4 : (0 : Int) ≤ (j : Int) := by omega
              have b8 := HA8.out
              clear hcells hq hg
              obtain ⟨a0, a1, a2, a3, a4⟩ := HC.out
              have hg := HG.out
              have kp := (Kept.refl [] wi).alloc (.cells #[.int .u32 q.code, .int .i64 q.out, .int .i64 q.inn, .int .i64 q.watch, .int .u32 q.count] 50)
              have CC := hid (contains_call j cj wi.heap.size (by omega) (PJ.out.kept (KI.out.trans kp) (by simp)) (by omega) (by have := HB.out; omega) (show Has _ _ _ (pcells q) from Has.new wi 50 [.int .u32 q.code, .int .i64 q.out, .int .i64 q.inn, .int .i64 q.watch, .int .u32 q.count]) (fun i z hi hz => GJ.out.ap i j z q hi hz HQ.out))
              have KP := hid kp
              clear kp
              go_wp2_with fail
              refine CC.out.mono ?_
              rintro e w2 ⟨rfl, k2⟩
              have K2 := hid ((KI.out.trans KP.out).trans k2)
              clear k2 CC a0 a1 a2 a3 a4
              go_wp2_with fail
              go_roundw
              case rel =>
                (repeat apply Exists.intro)
                exact ⟨⟨j + 1, by omega, by go_num, K2.out⟩, rfl⟩
              case measure => simp [intOf]; omega
            · have e : j = psj.length := by omega
              subst e
              go_wp2_with fail
              exact ⟨⟨k + 1, by omega, by go_num, KI.out⟩, by simp [intOf]; omega⟩
        · have e : k = 2 := by omega
          subst e
          go_wp2_with fail
          go_ret
          exact ⟨rfl, K3.out.trans KK.out⟩
end NetC
namespace NetC
open Go Go.RowKit Hp Sl Ow Rw TM ParW WdC BagC MemC HostC DevC
variable {w w' : World} {g : Nat} {v : Value} {ps : List P} {p : P}
theorem infoP : (Tryz.prog.info? 50).map (fun i => (i.zero, i.size, i.bytes)) = some (some (.agg #[.int .u32 0, .int .i64 0, .int .i64 0, .int .i64 0, .int .u32 0]), 5, 40) := by kernel_rfl
theorem flat_len (ps : List P) : (ps.flatMap pcells).length = ps.length * 5 := by
  induction ps with
  | nil => rfl
  | cons p ps ih => simp only [List.flatMap_cons, List.length_append, List.length_cons, ih]; show 5 + _ = _; omega
theorem flat_at (ps : List P) (i : Nat) (p : P) (h : ps[i]? = some p) (j : Nat) (hj : j < 5) : (ps.flatMap pcells)[i * 5 + j]? = (pcells p)[j]? := by
  induction ps generalizing i with
  | nil => simp at h
  | cons q ps ih =>
    have hl : (pcells q).length = 5 := rfl
    cases i with
    | zero =>
      simp at h; subst h
      simp only [List.flatMap_cons, Nat.zero_mul, Nat.zero_add]
      rw [List.getElem?_append_left (by omega)]
    | succ i =>
      simp only [List.flatMap_cons]
      rw [List.getElem?_append_right (by omega), hl, show (i + 1) * 5 + j - 5 = i * 5 + j by omega]
      exact ih i (by simpa using h)
theorem flat_one (ps : List P) : ∀ u ∈ ps.flatMap pcells, u.oneCell' = true := by
  intro u hu
  obtain ⟨p, _, hp⟩ := List.mem_flatMap.1 hu
  unfold pcells at hp
  simp only [List.mem_cons, List.not_mem_nil, or_false] at hp
  rcases hp with rfl | rfl | rfl | rfl | rfl <;> rfl
theorem Prm.cells (h : Prm w g v ps) (j : Nat) (u : Value) (hu : (ps.flatMap pcells)[j]? = some u) : w.cell? ⟨g, j, none⟩ = some u := by
  obtain ⟨cap, _, _, _, hc⟩ := h
  have hj : j < ps.length * 5 := by rw [← flat_len]; exact (List.getElem?_eq_some_iff.1 hu).1
  obtain ⟨p, hp⟩ : ∃ p, ps[j / 5]? = some p := ⟨ps[j / 5]'(by omega), List.getElem?_eq_getElem _⟩
  have e := flat_at ps (j / 5) p hp (j % 5) (by omega)
  rw [show j / 5 * 5 + j % 5 = j by omega, hu] at e
  obtain ⟨a0, a1, a2, a3, a4⟩ := hc (j / 5) p hp
  have hm : j % 5 = 0 ∨ j % 5 = 1 ∨ j % 5 = 2 ∨ j % 5 = 3 ∨ j % 5 = 4 := by omega
  rcases hm with m | m | m | m | m <;> rw [m] at e <;> (have e := Option.some.inj e; subst e)
  · rw [show j = j / 5 * 5 by omega]; exact a0
  · rw [show j = j / 5 * 5 + 1 by omega]; exact a1
  · rw [show j = j / 5 * 5 + 2 by omega]; exact a2
  · rw [show j = j / 5 * 5 + 3 by omega]; exact a3
  · rw [show j = j / 5 * 5 + 4 by omega]; exact a4
theorem Prm.lt (h : Prm w g v ps) : g < w.heap.size := by obtain ⟨_, _, _, h, _⟩ := h; exact h
theorem Prm.shape (h : Prm w g v ps) : ∃ c, v = .slice (some ⟨g, 0, none⟩) ps.length c := by obtain ⟨c, e, _⟩ := h; exact ⟨c, e⟩
set_option maxRecDepth 100000 in
theorem cloneP_call (h : Prm w g v ps) (l8 : ps.length ≤ 8) (l1 : 1 ≤ ps.length) :
    Calls Tryz.prog 27 #[v] w fun e w' => ∃ a n c, e = .returned (.slice a n c) ∧ Kept [] w w' := by
  have HC := hid (fun (w' : World) (k : Kept [] w w') => (h.kept k (by simp)).cells)
  obtain ⟨cap, rfl, hle, hg, hcs⟩ := h
  have hnil : ∀ W : World, (binOp .eql 23 (.slice (some ⟨g, 0, none⟩) ps.length cap) (.slice none 0 0)).run Tryz.prog W = .ok (.bool false) W := fun W => Lib.run_eql_slice_nil W 23 _ (some ⟨g, 0, none⟩) ps.length cap 0 0 Tryz.underlying23
  obtain ⟨i0, hi, hz0, hz1, hz2⟩ := info_parts infoP
  have hH := Has.new w 50 []
  go_enter Tryz.func27, Tryz.ntmps27
  have hown : (w.alloc (.cells #[] 50)).ownsRow w.heap.size 50 5 (.slice (some ⟨w.heap.size, 0, none⟩) 0 0) 0 [] := by
    refine ⟨rfl, .inr ⟨w.heap.size, 0, #[], rfl, Nat.le_refl _, ?_, Nat.le_refl _, by simp, rfl, rfl⟩⟩
    simpa [Has] using hH
  have hk := (Kept.refl [w.heap.size] w).alloc (.cells #[] 50)
  have k0 := (Kept.refl [] w).alloc (.cells #[] 50)
  have K := hid hk
  have K0 := hid k0
  clear hk hH hcs k0
  go_wp2_with (at_builtin; refine wpList_append_own _ rfl _ _ 23 rfl w.heap.size 50 i0 (.agg #[.int .u32 0, .int .i64 0, .int .i64 0, .int .i64 0, .int .u32 0]) 5 40 Tryz.underlying23 hi hz0 hz1 hz2 rfl (by decide) _ _ _ rfl hown ⟨g, 0, none⟩ ps.length cap (ps.flatMap pcells) rfl ?c0 ?c1 ?c2 ?c3 ?c4 ?c5 ?_)
  case c0 => exact flat_len ps
  case c1 => intro j u hu; rw [Addr.add_mid, Nat.zero_add]; exact HC.out _ K0.out j u hu
  case c2 => exact flat_one ps
  case c3 => unfold maxLen; omega
  case c4 => omega
  case c5 => simp
  intro v' w' hown' hgrow hiff
  obtain ⟨a', n', c', rfl⟩ : ∃ a n c, v' = .slice a n c := by
    obtain ⟨_, ⟨rfl, _⟩ | ⟨g', c', cur, rfl, _⟩⟩ := hown'
    · exact ⟨_, _, _, rfl⟩
    · exact ⟨_, _, _, rfl⟩
  have hg := hid hgrow
  clear hown hgrow hown' hiff
  go_wp2
  go_ret
  exact ⟨_, _, _, rfl, (K.out.trans (kept_of_grown hg.out (by intro k hk; simp [Value.ownBlock] at hk; simp [hk]))).shed (by simp)⟩
structure WB (G : Nat → Prop) (lab : Nat → Nat) (w : World) (b : Nat) (nh nd : Value) (mx : Int) (cv : Value) (ca : Option Nat) (cs : List CP) (bb : Nat) (ps : List P) : Prop where
  top : Has w b 81 [nh, nd, .int .u32 mx, cv, .pointer (some ⟨bb, 0, none⟩), .slice none 0 0, .int .i64 0]
  con : Rws w 92 3 ca cv cs.length (conV cs)
  gb : own G lab 0 b
  gc : ∀ g, ca = some g → own G lab 0 g
  bag : IsB (own G lab 1) w bb []
  host : ∀ k p r, cs[k]? = some p → ps[k]? = some r → hostOf (own G lab (2 + 2 * k)) w p.h (H.new r)
  dev : ∀ k p r, cs[k]? = some p → ps[k]? = some r → DevM (own G lab (3 + 2 * k)) w p.d p.m p.mb (D.new r mx)
variable {G : Nat → Prop} {lab : Nat → Nat} {b : Nat} {nh nd : Value} {mx : Int} {cv cv' : Value} {ca ca' : Option Nat} {cs : List CP} {bb j : Nat}
theorem WB.other (h : WB G lab w b nh nd mx cv ca cs bb ps) (k : KG (hand G lab w j) w w') (hj : 2 + 2 * cs.length ≤ j) : WB G (relab lab w j) w' b nh nd mx cv ca cs bb ps := by
  have nb : ∀ {i a}, i < w.heap.size → own G lab a i → a ≠ j → ¬ hand G lab w j i := fun hi q hne r => other_relab hne _ hi r (own_relab _ hi q)
  refine ⟨k.has h.top (nb h.top.lt h.gb (by omega)), ?_, own_relab b h.top.lt h.gb, fun g hg => own_relab g (h.con.lt hg) (h.gc g hg), (part_bag ..).other h.bag k (by omega), fun i p r hp hr => ?_, fun i p r hp hr => ?_⟩
  · obtain ⟨S, s1, s2⟩ := id k
    exact h.con.kept s2 (fun g hg hm => nb (h.con.lt hg) (h.gc g hg) (by omega) (s1 g hm))
  · have := (List.getElem?_eq_some_iff.1 hp).1
    exact (part_host ..).other (h.host i p r hp hr) k (by omega)
  · have := (List.getElem?_eq_some_iff.1 hp).1
    exact (part_dev ..).other (h.dev i p r hp hr) k (by omega)
theorem WB.nil (h : WB G lab w b nh nd mx cv ca cs bb ps) (k : Kept [] w w') : WB G lab w' b nh nd mx cv ca cs bb ps :=
  ⟨k.has h.top (by simp), h.con.kept k (by simp), h.gb, h.gc, (part_bag ..).frame h.bag k (by simp), fun i p r hp hr => (part_host ..).frame (h.host i p r hp hr) k (by simp), fun i p r hp hr => (part_dev ..).frame (h.dev i p r hp hr) k (by simp)⟩
theorem WB.push {p : CP} (h : WB G lab w b nh nd mx cv ca cs bb ps) (k : KG (hand G lab w 0) w w') (top : Has w' b 81 [nh, nd, .int .u32 mx, cv', .pointer (some ⟨bb, 0, none⟩), .slice none 0 0, .int .i64 0])
    (con : Rws w' 92 3 ca' cv' (cs.length + 1) (conV cs ++ p.vals)) (gc : ∀ g, ca' = some g → hand G lab w 0 g)
    (hh : ∀ r, ps[cs.length]? = some r → hostOf (own G lab (2 + 2 * cs.length)) w p.h (H.new r)) (hd : ∀ r, ps[cs.length]? = some r → DevM (own G lab (3 + 2 * cs.length)) w p.d p.m p.mb (D.new r mx)) :
    WB G (relab lab w 0) w' b nh nd mx cv' ca' (cs ++ [p]) bb ps := by
  refine ⟨top, by rw [List.length_append]; unfold conV at con ⊢; simpa using con, own_relab b h.top.lt h.gb, fun g hg => hand_own k.size g (gc g hg), (part_bag ..).other h.bag k (by omega), fun i q r hp hr => ?_, fun i q r hp hr => ?_⟩
  · by_cases e : i < cs.length
    · rw [List.getElem?_append_left e] at hp
      exact (part_host ..).other (h.host i q r hp hr) k (by omega)
    · have e2 : i = cs.length := by have := (List.getElem?_eq_some_iff.1 hp).1; simp at this; omega
      subst e2
      simp at hp; subst hp
      exact (part_host ..).other (hh r hr) k (by omega)
  · by_cases e : i < cs.length
    · rw [List.getElem?_append_left e] at hp
      exact (part_dev ..).other (h.dev i q r hp hr) k (by omega)
    · have e2 : i = cs.length := by have := (List.getElem?_eq_some_iff.1 hp).1; simp at this; omega
      subst e2
      simp at hp; subst hp
      exact (part_dev ..).other (hd r hr) k (by omega)
def net0 (ps : List P) (mx : Int) : Wd := ⟨ps.map (fun p => ⟨H.new p, D.new p mx, sigB p⟩), [], 0⟩
theorem net0_cn (ps : List P) (mx : Int) (k : Nat) (r : P) (h : ps[k]? = some r) : (net0 ps mx).cn k = ⟨H.new r, D.new r mx, sigB r⟩ := by
  unfold net0 Wd.cn
  rw [List.getD_eq_getElem?_getD, List.getElem?_map, h]; rfl
theorem net0_ok (ps : List P) (mx : Int) (o : Good ps) (l8 : ps.length ≤ 8) (h : 0 < mx) (h2 : mx < 4294967296) : WOk (net0 ps mx) := by
  refine ⟨fun k hk => ?_, fun u hu => by simp [net0] at hu, by simp [net0], by show (0 : Int) ≤ 4096; decide, by simpa [net0] using l8⟩
  obtain ⟨r, hr⟩ : ∃ r, ps[k]? = some r := ⟨ps[k]'(by simpa [net0] using hk), List.getElem?_eq_getElem _⟩
  rw [net0_cn ps mx k r hr]
  have := o.ok r (List.mem_of_getElem? hr)
  exact ⟨HOk.new r this, DOk.new r this mx h h2, rfl, rfl⟩
theorem WB.done (h : WB G lab w b nh nd mx cv ca cs bb ps) (hl : cs.length = ps.length) (l1 : 1 ≤ ps.length) : ∃ ca', WAt G lab w b nh nd mx cv ca' cs bb (.slice none 0 0) none 0 [] (net0 ps mx) := by
  obtain ⟨g, hg⟩ : ∃ g, ca = some g := by
    obtain ⟨_, _, ⟨_, e, _⟩ | ⟨g, _, _, e, _⟩⟩ := h.con
    · omega
    · exact ⟨g, e⟩
  subst hg
  refine ⟨g, ⟨h.top, h.con, Rws.none _ _ _, h.gb, h.gc g rfl, fun q e => by cases e⟩, h.bag, by simpa [net0] using hl, fun k p hp => ?_, fun k p hp => ?_⟩
  · obtain ⟨r, hr⟩ : ∃ r, ps[k]? = some r := ⟨ps[k]'(by have := (List.getElem?_eq_some_iff.1 hp).1; omega), List.getElem?_eq_getElem _⟩
    rw [net0_cn ps mx k r hr]; exact h.host k p r hp hr
  · obtain ⟨r, hr⟩ : ∃ r, ps[k]? = some r := ⟨ps[k]'(by have := (List.getElem?_eq_some_iff.1 hp).1; omega), List.getElem?_eq_getElem _⟩
    rw [net0_cn ps mx k r hr]; exact h.dev k p r hp hr
theorem infoC : (Tryz.prog.info? 92).map (fun i => (i.zero, i.size, i.bytes)) = some (some (.agg #[.pointer none, .pointer none, .pointer none]), 3, 24) := by kernel_rfl
theorem kg_nil {B : Nat} (hB : w.heap.size ≤ B) (k : KG (fun i => B ≤ i) w w') : Kept [] w w' := by
  obtain ⟨S, s1, s2⟩ := k
  exact s2.shed (fun i hi hl => absurd (s1 i hi) (by omega))
def NwRel (wB : World) (b : Nat) (nh nd : Value) (mx : Int) (bb : Nat) (ps : List P) (i : Value) (w : World) : Prop :=
  ∃ (k : Nat) (lab : Nat → Nat) (cs : List CP) (cv : Value) (ca : Option Nat), k ≤ ps.length ∧ i = .int .i64 (k : Nat) ∧ cs.length = k ∧ Kept [] wB w ∧ WB (fun i => wB.heap.size ≤ i) lab w b nh nd mx cv ca cs bb ps
set_option maxRecDepth 100000 in
set_option maxHeartbeats 6400000 in
theorem new_call (g1 g2 : Nat) (v1 v2 : Value) (mx : Int) (h1 : Prm w g1 v1 ps) (h2 : Prm w g2 v2 ps) (o : Good ps) (l1 : 1 ≤ ps.length) (l8 : ps.length ≤ 8) (hm : 0 < mx) (hm2 : mx < 4294967296) :
    Calls Tryz.prog 11 #[.agg #[v1, v2, .int .u32 mx]] w fun e w' => ∃ b nh nd cv ca cs bb, e = .returned (.tuple #[.pointer (some ⟨b, 0, none⟩), .int .i64 0]) ∧ Kept [] w w' ∧ WF (fun i => w.heap.size ≤ i) w' b nh nd mx cv ca cs bb 0 (net0 ps mx) ∧ w.heap.size ≤ b := by
  have H1 := hid h1
  have H2 := hid h2
  have OK := hid o
  have HL := hid (And.intro l1 l8)
  have HM := hid (And.intro hm hm2)
  obtain ⟨c1, rfl⟩ := h1.shape
  obtain ⟨c2, rfl⟩ := h2.shape
  have CH := hid (fun (w' : World) (k : Kept [] w w') => check_call g1 g2 _ _ ps ps mx (H1.out.kept k (by simp)) (H2.out.kept k (by simp)) o o rfl l1 l8 hm)
  have C1 := hid (fun (w' : World) (k : Kept [] w w') => cloneP_call (H1.out.kept k (by simp)) l8 l1)
  have C2 := hid (fun (w' : World) (k : Kept [] w w') => cloneP_call (H2.out.kept k (by simp)) l8 l1)
  clear o l1 l8 hm hm2 h1 h2
  go_enter Tryz.func11, Tryz.ntmps11
  go_upto_region 1 with (fail)
  have K0 := hid ((Kept.refl [] w).alloc (.cells #[.slice (some ⟨g1, 0, none⟩) ps.length c1, .slice (some ⟨g2, 0, none⟩) ps.length c2, .int .u32 mx] 26))
  have N0 := hid (Has.new w 26 [.slice (some ⟨g1, 0, none⟩) ps.length c1, .slice (some ⟨g2, 0, none⟩) ps.length c2, .int .u32 mx])
  generalize w.alloc (.cells #[.slice (some ⟨g1, 0, none⟩) ps.length c1, .slice (some ⟨g2, 0, none⟩) ps.length c2, .int .u32 mx] 26) = wa at K0 N0 ⊢
  obtain ⟨N, hN⟩ : ∃ N, N = w.heap.size := ⟨_, rfl⟩
  rw [← hN] at N0 ⊢
  have NN := hid (Nat.le_of_eq hN.symm)
  clear hN
  have n0 := N0.out.cell 0 rfl
  have n1 := N0.out.cell 1 rfl
  have n2 := N0.out.cell 2 rfl
  have nl := N0.out.lt
  go_wp2_with fail
  refine (CH.out _ K0.out).mono ?_
  rintro e wB ⟨rfl, kB⟩
  have KB := hid (K0.out.trans kB)
  have NB := hid (kB.has N0.out (by simp))
  clear kB n0 n1 n2 nl K0 N0
  have n0 := NB.out.cell 0 rfl
  have n1 := NB.out.cell 1 rfl
  have n2 := NB.out.cell 2 rfl
  have nl := NB.out.lt
  go_upto_region 4 with (fail)
  have SK := hid (show ∀ w', Kept [] wB w' → (w'.cell? ⟨N, 0, none⟩ = some (.slice (some ⟨g1, 0, none⟩) ps.length c1) ∧ w'.cell? ⟨N, 1, none⟩ = some (.slice (some ⟨g2, 0, none⟩) ps.length c2) ∧ w'.cell? ⟨N, 2, none⟩ = some (.int .u32 mx)) from fun w' q => ⟨(q.has NB.out (by simp)).cell 0 rfl, (q.has NB.out (by simp)).cell 1 rfl, (q.has NB.out (by simp)).cell 2 rfl⟩)
  have dd := SK.out _ ((Kept.refl [] wB).drew)
  have BG := hid (fun (w' : World) (q : Kept [] wB w') => b_new w' (G := hand (fun i => wB.heap.size ≤ i) (fun _ => 99) w' 1) (fun i hi => ⟨Nat.le_trans q.size hi, .inl hi⟩))
  clear n0 n1 n2 nl
  go_region_held3 (fun w' => w'.cell? ⟨N, 0, none⟩ = some (.slice (some ⟨g1, 0, none⟩) ps.length c1) ∧ w'.cell? ⟨N, 1, none⟩ = some (.slice (some ⟨g2, 0, none⟩) ps.length c2) ∧ w'.cell? ⟨N, 2, none⟩ = some (.int .u32 mx)) (first | with_reducible assumption | with_reducible exact SK.out _ (K10.out.alloc _)) (first | (go_at_call_of 27 (Value.slice (some ⟨g1, 0, none⟩) ps.length c1); (with_reducible refine (C1.out _ (KB.out.trans ((Kept.refl [] wB).drew))).mono ?_); rintro e w8 ⟨a8, m8, d8, rfl, k8⟩; have K8 := hid (((Kept.refl [] wB).drew).trans k8); have dd2 := SK.out _ K8.out; clear k8) | (go_at_call_of 27 (Value.slice (some ⟨g2, 0, none⟩) ps.length c2); (with_reducible refine (C2.out _ (KB.out.trans K8.out)).mono ?_); rintro e w9 ⟨a9, m9, d9, rfl, k9⟩; have K9 := hid (K8.out.trans k9); have dd3 := SK.out _ K9.out; clear k9) | (go_at_call 28; (with_reducible refine (BG.out _ K9.out).mono ?_); rintro e w10 ⟨bb, rfl, k10, hb10, hbb⟩; have K10 := hid (K9.out.trans k10); have K9S := hid k10; have HB10 := hid hb10; have HBB := hid hbb; have dd4 := SK.out _ K10.out; clear k10 hb10 hbb))
  clear dd dd2 dd3 dd4
  have KW := hid (K10.out.alloc (.cells #[.slice a8 m8 d8, .slice a9 m9 d9, .int .u32 mx, .slice none 0 0, .pointer (some ⟨bb, 0, none⟩), .slice none 0 0, .int .i64 0] 81))
  have WN := hid (Has.new w10 81 [.slice a8 m8 d8, .slice a9 m9 d9, .int .u32 mx, .slice none 0 0, .pointer (some ⟨bb, 0, none⟩), .slice none 0 0, .int .i64 0])
  obtain ⟨b, hb⟩ : ∃ b, b = w10.heap.size := ⟨_, rfl⟩
  have W0 := hid (show WB (fun i => wB.heap.size ≤ i) (relab (relab (fun _ => 99) w9 1) w10 0) (w10.alloc (.cells #[.slice a8 m8 d8, .slice a9 m9 d9, .int .u32 mx, .slice none 0 0, .pointer (some ⟨bb, 0, none⟩), .slice none 0 0, .int .i64 0] 81)) b (.slice a8 m8 d8) (.slice a9 m9 d9) mx (.slice none 0 0) none [] bb ps from by
    refine ⟨hb ▸ WN.out, Rws.none _ _ _, ⟨by have := K10.out.size; show wB.heap.size ≤ b; omega, by unfold relab; rw [if_neg (by omega)]⟩, fun g e => (by cases e), ?_, fun i q r e => (by simp at e), fun i q r e => (by simp at e)⟩
    exact (part_bag ..).other ((part_bag ..).post K9S.out.size HB10.out) (KG.nil ((Kept.refl [] w10).alloc _)) (by omega))
  have BW := hid (show wB.heap.size ≤ b by have := K10.out.size; omega)
  rw [← hb]
  clear hb WN HB10 HBB K9S
  generalize w10.alloc (.cells #[.slice a8 m8 d8, .slice a9 m9 d9, .int .u32 mx, .slice none 0 0, .pointer (some ⟨bb, 0, none⟩), .slice none 0 0, .int .i64 0] 81) = w11 at KW W0 ⊢
  generalize relab (relab (fun _ => 99) w9 1) w10 0 = lab0 at W0
  generalize Value.slice a8 m8 d8 = nh at W0
  generalize Value.slice a9 m9 d9 = nd at W0
  have n0 := (KW.out.has NB.out (by simp)).cell 0 rfl
  have nl := (KW.out.has NB.out (by simp)).lt
  go_wp2_with fail
  clear n0 nl SK BG K8 K9 K10
  go_loopw [33] (NwRel wB b nh nd mx bb ps) (fun i _ => ps.length - (intOf i).toNat)
  case atStart => exact ⟨0, _, [], _, _, Nat.zero_le _, rfl, rfl, KW.out, W0.out⟩
  case round =>
    obtain ⟨k, lab, cs, cv, ca, hk, rfl, hcs, hK, hW⟩ := hrel
    obtain ⟨wr, ⟨KR', WR'⟩, hwr⟩ : ∃ z, (Kept [] wB z ∧ WB (fun i => wB.heap.size ≤ i) lab z b nh nd mx cv ca cs bb ps) ∧ z = _ := ⟨_, ⟨hK, hW⟩, rfl⟩
    subst hwr
    have KR := hid KR'
    have WR := hid WR'
    have CS := hid hcs
    clear hK hW KR' WR' hcs
    by_cases hlt : k < ps.length
    · obtain ⟨r, hr⟩ : ∃ r, ps[k]? = some r := ⟨ps[k]'hlt, List.getElem?_eq_getElem _⟩
      have RO := hid (OK.out.ok r (List.mem_of_getElem? hr))
      have R := hid hr
      clear hr
      have r3 : (k : Int) < (ps.length : Int) := by omega
      have r4 : (0 : Int) ≤ (k : Int) := by omega
      have r5 := HL.out
      go_wp2_with fail
      refine (MemC.new_call _).mono ?_
      rintro e w1 ⟨m, mb, rfl, k1, im, hm1, hm2⟩
      have K1 := hid k1
      have IM := hid im
      have MB := hid (And.intro hm1 hm2)
      have W1 := hid (WR.out.other (j := 3 + 2 * k) (KG.nil k1) (by have := CS.out; omega))
      have KR1 := hid (KR.out.trans k1)
      clear k1 im hm1 hm2
      go_upto_region 9 with (fail)
      have SK9 := hid (show ∀ w', Kept [] wB w' → (w'.cell? ⟨N, 0, none⟩ = some (.slice (some ⟨g1, 0, none⟩) ps.length c1) ∧ w'.cell? ⟨g1, k * 5, none⟩ = some (.int .u32 r.code) ∧ w'.cell? ⟨g1, k * 5 + 1, none⟩ = some (.int .i64 r.out) ∧ w'.cell? ⟨g1, k * 5 + 2, none⟩ = some (.int .i64 r.inn) ∧ w'.cell? ⟨g1, k * 5 + 3, none⟩ = some (.int .i64 r.watch) ∧ w'.cell? ⟨g1, k * 5 + 4, none⟩ = some (.int .u32 r.count)) from fun w' q => by
        obtain ⟨_, _, _, _, hc⟩ := H1.out.kept (KB.out.trans q) (by simp)
        exact ⟨(q.has NB.out (by simp)).cell 0 rfl, hc k r R.out⟩)
      have HN := hid (fun (w' : World) (q : Kept [] w1 w') => HostC.new_call r RO.out (hand (fun i => wB.heap.size ≤ i) (relab lab wr (3 + 2 * k)) w' (2 + 2 * k)) w' (opn_hand (fun i hi => Nat.le_trans (KR1.out.trans q).size hi)))
      have hg := (H1.out.kept (KB.out.trans KR1.out) (by simp)).lt
      obtain ⟨n0, a0, a1, a2, a3, a4⟩ := SK9.out _ KR1.out
      have nl := (KR1.out.has NB.out (by simp)).lt
      unfold pval at HN
      go_wp2_with fail
      refine (HN.out _ (Kept.refl [] w1)).mono ?_
      rintro e w2 ⟨hb, rfl, k2, hh2, _⟩
      have K2 := hid k2
      have HH2 := hid ((part_host ..).post k2.size hh2)
      have KR2 := hid (kg_nil (Nat.le_refl _) ((KG.nil KR1.out).trans (KG.shed (G' := fun i => wB.heap.size ≤ i) k2 (fun i _ q => q.1))))
      have W2 := hid (W1.out.other k2 (by have := CS.out; omega))
      have nm : ∀ z, wr.heap.size ≤ z → z < w1.heap.size → ¬ hand (fun i => wB.heap.size ≤ i) (relab lab wr (3 + 2 * k)) w1 (2 + 2 * k) z := fun z h1 h2 q => by
        rcases q.2 with e | e
        · omega
        · unfold relab at e; rw [if_neg (by omega)] at e; omega
      have IM2 := hid (show IsMem w2 m mb M.new from by
        obtain ⟨S, s1, s2⟩ := k2
        obtain ⟨l1, l2⟩ := IM.out.lt
        exact IM.out.kept s2 (fun hm => nm m MB.out.1 l1 (s1 _ hm)) (fun hm => nm mb MB.out.2 l2 (s1 _ hm)))
      have HMB := hid (And.intro (Nat.lt_of_lt_of_le IM.out.lt.1 k2.size) (Nat.lt_of_lt_of_le IM.out.lt.2 k2.size))
      have LM := hid (show own (fun i => wB.heap.size ≤ i) (relab (relab lab wr (3 + 2 * k)) w1 (2 + 2 * k)) (3 + 2 * k) m ∧ own (fun i => wB.heap.size ≤ i) (relab (relab lab wr (3 + 2 * k)) w1 (2 + 2 * k)) (3 + 2 * k) mb from by
        have e1 := KR.out.size
        have e2 := MB.out
        have e3 := IM.out.lt
        refine ⟨⟨by show wB.heap.size ≤ m; omega, ?_⟩, ⟨by show wB.heap.size ≤ mb; omega, ?_⟩⟩ <;> (unfold relab; rw [if_pos (by omega), if_neg (by omega)]))
      clear k2 hh2 nm n0 a0 a1 a2 a3 a4 nl HN hg SK9
      have SK10 := hid (show ∀ w', Kept [] wB w' → (w'.cell? ⟨N, 1, none⟩ = some (.slice (some ⟨g2, 0, none⟩) ps.length c2) ∧ w'.cell? ⟨N, 2, none⟩ = some (.int .u32 mx) ∧ w'.cell? ⟨g2, k * 5, none⟩ = some (.int .u32 r.code) ∧ w'.cell? ⟨g2, k * 5 + 1, none⟩ = some (.int .i64 r.out) ∧ w'.cell? ⟨g2, k * 5 + 2, none⟩ = some (.int .i64 r.inn) ∧ w'.cell? ⟨g2, k * 5 + 3, none⟩ = some (.int .i64 r.watch) ∧ w'.cell? ⟨g2, k * 5 + 4, none⟩ = some (.int .u32 r.count)) from fun w' q => by
        obtain ⟨_, _, _, _, hc⟩ := H2.out.kept (KB.out.trans q) (by simp)
        exact ⟨(q.has NB.out (by simp)).cell 1 rfl, (q.has NB.out (by simp)).cell 2 rfl, hc k r R.out⟩)
      generalize relab (relab lab wr (3 + 2 * k)) w1 (2 + 2 * k) = lab2 at W2 HH2 LM
      have DN := hid (fun (w' : World) (q : Kept [] w2 w') => DevC.new_call r RO.out mx HM.out.1 m mb w' (G := fun i => hand (fun i => wB.heap.size ≤ i) lab2 w' (3 + 2 * k) i ∧ i ≠ m ∧ i ≠ mb) (devM_opn (opn_hand (fun i hi => Nat.le_trans (KR2.out.trans q).size hi)) (Nat.lt_of_lt_of_le HMB.out.1 q.size) (Nat.lt_of_lt_of_le HMB.out.2 q.size)) (IM2.out.kept q (by simp) (by simp)) (fun q => q.2.1 rfl) (fun q => q.2.2 rfl))
      unfold pval at DN
      go_upto_region 10 with (fail)
      have dd := SK10.out _ KR2.out.drew
      have hg := (H2.out.kept (KB.out.trans KR2.out) (by simp)).lt
      have nl := (KR2.out.has NB.out (by simp)).lt
      go_region_held3 (fun w' => w'.cell? ⟨N, 1, none⟩ = some (.slice (some ⟨g2, 0, none⟩) ps.length c2) ∧ w'.cell? ⟨N, 2, none⟩ = some (.int .u32 mx) ∧ w'.cell? ⟨g2, k * 5, none⟩ = some (.int .u32 r.code) ∧ w'.cell? ⟨g2, k * 5 + 1, none⟩ = some (.int .i64 r.out) ∧ w'.cell? ⟨g2, k * 5 + 2, none⟩ = some (.int .i64 r.inn) ∧ w'.cell? ⟨g2, k * 5 + 3, none⟩ = some (.int .i64 r.watch) ∧ w'.cell? ⟨g2, k * 5 + 4, none⟩ = some (.int .u32 r.count)) (with_reducible assumption) ((go_at_call 31; (with_reducible refine (DN.out _ ((Kept.refl [] w2).drew)).mono ?_); rintro e w3 ⟨db, rfl, k3, hd3, _⟩; have KM := hid (devM_kg (own_hand m LM.out.1) (own_hand mb LM.out.2) k3); have HD := hid (show DevM (hand (fun i => wB.heap.size ≤ i) lab2 w2.drew (3 + 2 * k)) w3 db m mb (D.new r mx) from ⟨hd3, own_hand m LM.out.1, own_hand mb LM.out.2⟩); have KR3 := hid (kg_nil (Nat.le_refl _) ((KG.nil KR2.out.drew).trans (KG.shed (G' := fun i => wB.heap.size ≤ i) KM.out (fun i _ q => q.1)))); have dd3 := SK10.out _ KR3.out; clear k3 hd3))
      clear dd dd3 hg nl DN SK10
      have HH3 := hid ((part_host ..).other (j := 3 + 2 * k) ((part_host ..).frame HH2.out ((Kept.refl [] w2).drew) (by simp)) KM.out (by omega))
      have W3 := hid ((W2.out.nil ((Kept.refl [] w2).drew)).other KM.out (by have := CS.out; omega))
      have HD3 := hid ((part_dev ..).post KM.out.size HD.out)
      clear W1 W2 HH2 HD IM IM2 MB HMB LM KR1 KR2 K1 K2 KM
      generalize relab lab2 w2.drew (3 + 2 * k) = lab3 at W3 HH3 HD3
      go_upto_region 11 with (fail)
      obtain ⟨pv, cv2, rfl, hle⟩ := W3.out.con.shape
      have kl := (Kept.refl [] w3).alloc (.cells #[.pointer (some ⟨hb, 0, none⟩), .pointer (some ⟨db, 0, none⟩), .pointer (some ⟨m, 0, none⟩)] 92)
      have KL := hid kl
      have RT := hid (W3.out.con.kept kl (by simp))
      have T7 := hid (Has.new w3 92 [.pointer (some ⟨hb, 0, none⟩), .pointer (some ⟨db, 0, none⟩), .pointer (some ⟨m, 0, none⟩)])
      have LT := hid (kl.has W3.out.top (by simp))
      have c3 := W3.out.top.cell 3 (v := .slice pv cs.length cv2) rfl
      have d3 := LT.out.cell 3 (v := .slice pv cs.length cv2) rfl
      have HLE := hid hle
      have cs8 : cs.length ≤ 1000000 := by have := CS.out; omega
      have NEB := hid (show ∀ g, ca = some g → b ≠ g from fun g hg => by obtain ⟨q, hh⟩ := W3.out.con.ty hg; exact Ow.Has.ne W3.out.top hh (by decide))
      clear kl hle
      go_wp2_with (at_builtin; refine wpList_puts _ (by rfl) _ _ 78 92 3 24 _ (by rfl) Tryz.underlying78 infoC (by rfl) (by decide) (by decide) ca _ cs.length (conV cs) _ _ RT.out T7.out (by rfl) (by intro u hu; simp at hu; rcases hu with rfl | rfl | rfl <;> rfl) cs8 (by rfl) (by rfl) ?_; intro u2 w8 hp; obtain ⟨la2, hla2, hr2⟩ := hp.rows; obtain ⟨pu, cu, hu, hcu⟩ := hr2.shape; subst hu; have R8 := hid (And.intro hla2 hr2); have P8 := hid hp.kept; have L8 := hid (hp.kept.has LT.out (by intro hm; simp at hm; exact NEB.out _ hm rfl)); have e0 := L8.out.cell 3 (v := .slice pv cs.length cv2) rfl; have y0 := L8.out.free 3; clear hp hla2 hr2 hcu)
      clear c3 d3 e0 y0
      have kl := (Kept.refl [b] w8).set ⟨b, 3, none⟩ (.slice pu (cs.length + 1) cu) (by simp)
      have K9 := hid (show KG (hand (fun i => wB.heap.size ≤ i) lab3 w3 0) w3 (w8.setCell ⟨b, 3, none⟩ (.slice pu (cs.length + 1) cu)) from (KG.nil KL.out).trans ((KG.of P8.out (fun g hg => own_hand g (W3.out.gc g (by simpa using hg)))).trans (.one kl (own_hand b W3.out.gb))))
      have F9 := hid (R8.out.2.kept kl (fun g hg hm => by
        simp at hm
        obtain ⟨q, q1⟩ := R8.out.2.ty hg
        exact Ow.Has.ne q1 L8.out (by decide) hm))
      have L9 := hid (L8.out.set 3 (.slice pu (cs.length + 1) cu))
      have G9 := hid (show ∀ g, la2 = some g → hand (fun i => wB.heap.size ≤ i) lab3 w3 0 g from fun g hg => by
        rcases R8.out.1 with e | ⟨g', e, hgb⟩
        · exact own_hand g (W3.out.gc g (e ▸ hg))
        · rw [e] at hg; cases hg
          have := KL.out.size
          exact opn_hand (fun i hi => Nat.le_trans KR3.out.size hi) _ (by omega))
      refine ⟨⟨k + 1, relab lab3 w3 0, cs ++ [⟨hb, db, m, mb⟩], _, la2, by omega, by push_cast; rfl, by rw [List.length_append, CS.out]; rfl, kg_nil (Nat.le_refl _) ((KG.nil KR3.out).trans (K9.out.shed (fun i _ q => q.1))), W3.out.push (p := ⟨hb, db, m, mb⟩) K9.out L9.out F9.out G9.out (fun r' hr' => ?_) (fun r' hr' => ?_)⟩, by simp [intOf]; omega⟩
      · rw [CS.out, R.out] at hr'; cases hr'; rw [CS.out]; exact HH3.out
      · rw [CS.out, R.out] at hr'; cases hr'; rw [CS.out]; exact HD3.out
    · have e : k = ps.length := by omega
      subst e
      obtain ⟨ca', WD⟩ := WR.out.done CS.out HL.out.1
      have WD := hid WD
      go_wp2_with fail
      go_ret2
      exact ⟨b, nh, nd, cv, ca', cs, bb, rfl, KB.out.trans KR.out, ⟨_, _, _, _, WD.out.mono (fun i hi q => Nat.le_trans KB.out.size q)⟩, Nat.le_trans KB.out.size BW.out⟩
end NetC
end Go.Proofs.YtinaliblnihpbaaGreat
