/- The document's bag. -/
import Derived.Test.YtlafkeijikbenabBagD
namespace Go.Proofs.Ytlafkeijikbenab.BagC
open Go Go.RowKit Go.Proofs.Ytlafkeijikbenab.Hp Go.Proofs.Ytlafkeijikbenab.Sl Go.Proofs.Ytlafkeijikbenab.Ap Go.Proofs.Ytlafkeijikbenab.MeterC Go.Proofs.Ytlafkeijikbenab.Br Go.Proofs.Ytlafkeijikbenab.BrG Go.Proofs.Ytlafkeijikbenab.Bt
set_option linter.unusedVariables false
set_option linter.unusedSimpArgs false
def IsRef (w : World) (c : Nat) (lr : Option Nat) (fs : List (List Int)) : Prop :=
  ∃ v, Has w c 67 [v] ∧ Held w lr v fs ∧ Few fs
theorem IsRef.kept {w w' : World} {c : Nat} {lr : Option Nat} {fs : List (List Int)} {S : List Nat} (h : IsRef w c lr fs) (k : Kept S w w') (hS : ∀ x, x ∈ S → x < w.heap.size → (∃ T cs, Has w x T cs ∧ T ≠ 5 ∧ T ≠ 67) ∧ lr ≠ some x) : IsRef w' c lr fs := by
  obtain ⟨v, h1, h3, h5⟩ := h
  refine ⟨v, k.has h1 (fun hm => ?_), HeldP.kept h3 k (fun x hx hl => ?_) (fun g hg hm => ?_), h5⟩
  · obtain ⟨⟨T, cs, q, n1, n2⟩, _⟩ := hS _ hm h1.lt
    exact Has.neq q h1 n2 rfl
  · obtain ⟨⟨T, cs, q, n1, n2⟩, _⟩ := hS _ hx hl
    exact .inl ⟨T, cs, q, n1⟩
  · obtain ⟨cs, q⟩ := Held.ty h3 hg
    exact (hS _ hm q.lt).2 hg
theorem step_app {ops : Array Oper} {o : Oper} {a : Act} {K : Act → World → Prop} {Q : Exit → Act → World → Prop} {E : Prop} (hgd : o.guard = none) (s x : Operand)
    (ho : o.op = .call { callee := .builtin .append, args := #[s, x], argTypes := #[22, 22] }) (W : World) (src : Value) (l : List Int) (k0 : Nat) (hk0 : W.heap.size = k0)
    (hs : a.eval s = .slice (some ⟨k0, 0, none⟩) 0 0) (hx : a.eval x = src) (hB : Bytes W src l) (hl : l.length ≤ 140737488351232)
    (h : ∀ v' w', Kept [] W w' → (∃ g, W.heap.size ≤ g ∧ Own w' g v' l) → K (a.put o.dst v') w') : if Region.wanted o (yielded ops a.tmps) = true then Oper.wp Try.prog o a (W.alloc (.cells #[] 5)) K Q else E := by
  have hw : Region.wanted o (yielded ops a.tmps) = true := by simp [Region.wanted, hgd]
  rw [if_pos hw]
  subst hk0
  obtain ⟨v', w', hr, k, ho'⟩ := run_app o.type W src l hB hl
  exact wp_app_eq ho hs hx hr (h v' w' k ho')
theorem rput_long (c : Nat) (s : Value) (l : List Int) (w : World) (hs : Bytes w s l) (hl : 27 < l.length) :
    Calls Try.prog 36 #[.pointer (some ⟨c, 0, none⟩), s] w fun e w' => e = .returned (.tuple #[.int .i64 0, .int .i64 41]) ∧ Kept [] w w' := by
  obtain ⟨p, c, rfl⟩ : ∃ p c, s = .slice p l.length c := by rcases hs with ⟨rfl, rfl⟩ | ⟨x, cap, rfl, _⟩ <;> exact ⟨_, _, rfl⟩
  have e1 : decide ((l.length : Int) > 27) = true := by simp; omega
  clear hs hl
  go_enter Try.func36, Try.ntmps36
  go_wp2
  go_ret2
  exact ⟨rfl, Kept.refl _ _⟩
theorem rput_full (b : Nat) (la : Option Nat) (fs : List (List Int)) (s : Value) (l : List Int) (w : World) (h : IsRef w b la fs) (hs : Bytes w s l) (hl : l.length ≤ 27) (hf : 4096 ≤ fs.length) :
    Calls Try.prog 36 #[.pointer (some ⟨b, 0, none⟩), s] w fun e w' => e = .returned (.tuple #[.int .i64 0, .int .i64 150]) ∧ Kept [] w w' := by
  obtain ⟨v, h1, ⟨vs, h3, h4, h5⟩, h7⟩ := h
  obtain ⟨p, c, rfl⟩ : ∃ p c, s = .slice p l.length c := by rcases hs with ⟨rfl, rfl⟩ | ⟨x, cap, rfl, _⟩ <;> exact ⟨_, _, rfl⟩
  obtain ⟨pv, cv, rfl, hle⟩ := h3.shape
  have c0 := h1.cell 0 (v := .slice pv vs.length cv) rfl
  have e1 : decide ((l.length : Int) > 27) = false := by simp; omega
  have e2 : decide ((vs.length : Int) ≥ 4096) = true := by simp; omega
  clear hs h1 h3 h5 hl h4
  go_enter Try.func36, Try.ntmps36
  go_wp2
  go_ret2
  exact ⟨rfl, Kept.refl _ _⟩
set_option maxRecDepth 100000 in
set_option maxHeartbeats 1600000 in
theorem rput_call (b : Nat) (la : Option Nat) (fs : List (List Int)) (s : Value) (l : List Int) (w : World) (h : IsRef w b la fs) (hs : Bytes w s l) (hl : l.length ≤ 27) (hf : fs.length < 4096) :
    Calls Try.prog 36 #[.pointer (some ⟨b, 0, none⟩), s] w fun e w' => e = .returned (.tuple #[.int .i64 (fs.length : Nat), .int .i64 0]) ∧ Kept (b :: la.toList) w w' ∧ ∃ la', (la' = la ∨ ∃ g, la' = some g ∧ w.heap.size ≤ g) ∧ IsRef w' b la' (fs ++ [l]) := by
  obtain ⟨v, h1, ⟨vs, h3, h4, h5⟩, h7⟩ := h
  obtain ⟨p, c, rfl⟩ : ∃ p c, s = .slice p l.length c := by rcases hs with ⟨rfl, rfl⟩ | ⟨x, cap, rfl, _⟩ <;> exact ⟨_, _, rfl⟩
  obtain ⟨pv, cv, rfl, hle⟩ := h3.shape
  have c0 := h1.cell 0 (v := .slice pv vs.length cv) rfl
  have d9 := (h1.drew.alloc (.cells #[] 5)).cell 0 (v := .slice pv vs.length cv) rfl
  have d8 := (h1.alloc (.cells #[] 5)).cell 0 (v := .slice pv vs.length cv) rfl
  have z0 := h1.free 0
  have e1 : decide ((l.length : Int) > 27) = false := by simp; omega
  have e2 : decide ((vs.length : Int) ≥ 4096) = false := by simp; omega
  have HS := Lib.hid hs
  have H1 := Lib.hid h1
  have H3 := Lib.hid h3
  have H5 := Lib.hid h5
  have HL := Lib.hid hl
  clear hs h1 h3 h5 hl
  have hsl : vs.length ≤ 1000000 := by omega
  have hone := Lib.hid (Held.one h4 H5.out)
  have H4 := Lib.hid h4
  have hnb : b ∉ la.toList := by
    intro hm
    simp at hm
    obtain ⟨cs, q⟩ := Held.ty (⟨vs, H3.out, h4, H5.out⟩ : HeldP All w la _ fs) hm
    exact Has.neq H1.out q (by decide) rfl
  have nb := Lib.hid hnb
  have HSD := Lib.hid (HS.out.kept ((Kept.refl [] w).drew) (by simp))
  have hl9 : l.length ≤ 140737488351232 := by have := HL.out; omega
  clear h4 hle hnb
  go_enter Try.func36, Try.ntmps36
  go_wp2_with fail
  go_region_law (first
    | (refine step_put (by rfl) _ _ (by rfl) la _ vs _ _ R1.out T1.out (Row.oneCell Y.out.1) hone.out (by rfl) (by rfl) hsl ?_; intro u2 w2 hp; obtain ⟨la2, hla2, hr2⟩ := hp.rows; obtain ⟨pu, cu, hu, _⟩ := hr2.shape; rw [List.length_append, List.length_singleton] at hu; subst hu; have R2 := Lib.hid (And.intro hla2 hr2); have B2 := Lib.hid (hp.kept.has ((K1.out.alloc (.cells #[.slice py l.length cy] 22)).has H1.out (by simp)) nb.out); have f0 := B2.out.cell 0 (v := .slice pv vs.length cv) rfl; have g0 := B2.out.free 0; have P2 := Lib.hid hp; clear hp hr2 hla2)
    | (refine step_app (by rfl) _ _ (by rfl) w.drew _ l _ rfl (by rfl) (by rfl) HSD.out hl9 ?_; intro y w1 k1 hcl; obtain ⟨gy, hgy, hoy⟩ := hcl; obtain ⟨py, cy, hy⟩ := Row.sl (Or.inr ⟨gy, hoy⟩); subst hy; have K1 := Lib.hid ((Kept.refl [] w).drew.trans k1); have Y := Lib.hid ((⟨.inr ⟨gy, hoy⟩, fun k hk => by rw [Own.block hoy] at hk; cases hk; exact hgy⟩ : Made w w1 (.slice py l.length cy) l)); have R1 := Lib.hid (H3.out.kept (K1.out.alloc (.cells #[.slice py l.length cy] 22)) (by simp)); have T1 := Lib.hid (Has.new w1 22 [.slice py l.length cy]); have d0 := (K1.out.has H1.out (by simp)).cell 0 (v := .slice pv vs.length cv) rfl; have d1 := ((K1.out.alloc (.cells #[.slice py l.length cy] 22)).has H1.out (by simp)).cell 0 (v := .slice pv vs.length cv) rfl; clear k1 hoy hgy))
  all_goals (
    have X := K1.out.alloc (.cells #[.slice py l.length cy] 22)
    obtain ⟨la', hla', hh2⟩ := Held.put R1.out H4.out (fun i hi => Row.keptP (H5.out i hi) X (by simp)) (Row.keptP ⟨Y.out.1, fun _ _ => trivial⟩ ((Kept.refl [] w1).alloc (.cells #[.slice py l.length cy] 22)) (by simp)) P2.out
    have KW := (Kept.refl [b] w2).set ⟨b, 0, none⟩ (.slice pu (vs.length + 1) cu) (by simp)
    have B3 := B2.out.set 0 (.slice pu (vs.length + 1) cu)
    have H6 := HeldP.kept hh2 KW (by intro x hx hl; simp at hx; subst hx; exact .inl ⟨_, _, B2.out, by decide⟩) (by intro g hg hm; simp at hm; subst hm; obtain ⟨cs, q⟩ := Held.ty hh2 hg; exact Has.neq B2.out q (by decide) rfl)
    have K3 : Kept (b :: la.toList) w (w2.setCell ⟨b, 0, none⟩ (.slice pu (vs.length + 1) cu)) := ((X.mono (by simp)).trans (P2.out.kept.mono (by intro k hk; simp [hk]))).trans (KW.mono (by simp))
    have hla3 : la' = la ∨ ∃ g, la' = some g ∧ w.heap.size ≤ g := by
      rcases hla' with h | ⟨g, h, hg⟩
      · exact .inl h
      · exact .inr ⟨g, h, Nat.le_trans X.size hg⟩
    have HB3 := Lib.hid B3
    have HH6 := Lib.hid H6
    have HK3 := Lib.hid K3
    have HLA := Lib.hid hla3
    clear B3 H6 K3 hla3 hla' KW X c0 z0 d0 d1 d8 d9 f0 g0 K1 Y R1 T1 R2 B2 P2 hh2
    generalize w2.setCell ⟨b, 0, none⟩ (.slice pu (vs.length + 1) cu) = w3 at *
    have c0 := HB3.out.cell 0 (v := .slice pu (vs.length + 1) cu) rfl
    go_wp2_with fail
    go_ret2
    have h4 := H4.out
    exact ⟨by go_num, HK3.out, la', HLA.out, _, HB3.out, HH6.out, h7.put l HL.out hf⟩)
theorem rget_in (b : Nat) (la : Option Nat) (fs : List (List Int)) (i : Nat) (w : World) (h : IsRef w b la fs) (hi : i < fs.length) :
    Calls Try.prog 37 #[.pointer (some ⟨b, 0, none⟩), .int .i64 (i : Int)] w fun e w' => ∃ y, e = .returned (.tuple #[y, .int .i64 0]) ∧ Kept [] w w' ∧ Made w w' y (fs.getD i []) := by
  obtain ⟨v, h1, ⟨vs, h3, h4, h5⟩, h7⟩ := h
  obtain ⟨g, cv, rfl, hle, hg, hc⟩ := h3.cell i (by omega)
  have hr := (h5 i hi).1
  obtain ⟨py, cy, ey⟩ := Row.sl hr
  rw [ey] at hr
  have HR := Lib.hid (Row.bytes hr)
  obtain ⟨g2, cv2, e2, _, _, hc2⟩ := (h3.kept ((Kept.refl [] w).alloc (.cells #[] 5)) (by simp)).cell i (by omega)
  obtain ⟨rfl, rfl⟩ : g = g2 ∧ cv = cv2 := by simpa using e2
  rw [ey] at hc2
  have c0 := h1.cell 0 (v := .slice (some ⟨g, 0, none⟩) vs.length cv) rfl
  have d0 := (h1.alloc (.cells #[] 5)).cell 0 (v := .slice (some ⟨g, 0, none⟩) vs.length cv) rfl
  have n1 : decide ((i : Int) < 0) = false := by simp
  have n2 : decide ((i : Int) ≥ (vs.length : Int)) = false := by simp; omega
  have n3 : i < cv := by omega
  have n4 : i < vs.length := by omega
  have hsm := Lib.hid (h7.get i)
  generalize fs.getD i [] = l at *
  clear h1 h3 h5 h4 h7 hr hi ey hle hc e2
  go_enter Try.func37, Try.ntmps37
  go_wp2_with (at_builtin; refine wpList_app rfl _ _ rfl w (.slice py l.length cy) l _ rfl rfl rfl HR.out (by have := hsm.out; omega) ?_)
  intro y w2 k2 gy hgy hoy
  have Y : Made w w2 y l := ⟨.inr ⟨gy, hoy⟩, fun k hk => by rw [Own.block hoy] at hk; cases hk; exact hgy⟩
  have Y' := Lib.hid Y
  clear hoy hgy Y
  go_wp2_with fail
  go_ret2
  exact ⟨y, rfl, k2, Y'.out⟩
theorem rget_out (b : Nat) (la : Option Nat) (fs : List (List Int)) (i : Int) (w : World) (h : IsRef w b la fs) (hi : i < 0 ∨ (fs.length : Int) ≤ i) :
    Calls Try.prog 37 #[.pointer (some ⟨b, 0, none⟩), .int .i64 i] w fun e w' => e = .returned (.tuple #[.slice none 0 0, .int .i64 151]) ∧ Kept [] w w' := by
  obtain ⟨v, h1, ⟨vs, h3, h4, h5⟩, h7⟩ := h
  obtain ⟨pv, cv, rfl, hle⟩ := h3.shape
  have c0 := h1.cell 0 (v := .slice pv vs.length cv) rfl
  by_cases hn : i < 0
  · have n1 : decide (i < 0) = true := by simpa using hn
    clear h1 h3 h5 h4 h7 hi hle hn
    go_enter Try.func37, Try.ntmps37
    go_wp2_with fail
    go_ret2
    exact ⟨rfl, Kept.refl _ _⟩
  · have n1 : decide (i < 0) = false := by simpa using hn
    have n2 : decide (i ≥ (vs.length : Int)) = true := by simp; omega
    clear h1 h3 h5 h4 h7 hi hle hn
    go_enter Try.func37, Try.ntmps37
    go_wp2_with fail
    go_ret2
    exact ⟨rfl, Kept.refl _ _⟩
theorem rget_call (b : Nat) (la : Option Nat) (fs : List (List Int)) (i : Int) (w : World) (h : IsRef w b la fs) :
    Calls Try.prog 37 #[.pointer (some ⟨b, 0, none⟩), .int .i64 i] w fun e w' => ∃ y, e = .returned (.tuple #[y, .int .i64 (getA fs i).2]) ∧ Kept [] w w' ∧ Made w w' y (getA fs i).1 := by
  by_cases hi : 0 ≤ i ∧ i < (fs.length : Int)
  · have e : getA fs i = (fs.getD i.toNat [], 0) := by simp [getA, hi]
    rw [e]
    obtain ⟨k, rfl⟩ := Int.eq_ofNat_of_zero_le hi.1
    exact rget_in b la fs k w h (by omega)
  · have e : getA fs i = ([], 151) := by simp [getA, hi]
    rw [e]
    refine (rget_out b la fs i w h (by omega)).mono ?_
    rintro e w' ⟨rfl, k⟩
    exact ⟨_, rfl, k, made_nil _ _⟩
set_option maxRecDepth 100000 in
theorem rgarbled_call (b : Nat) (la : Option Nat) (fs : List (List Int)) (i at' : Int) (x : Nat) (hx : x < 2 ^ 32) (w : World) (h : IsRef w b la fs) :
    Calls Try.prog 38 #[.pointer (some ⟨b, 0, none⟩), .int .i64 i, .int .i64 at', .int .u32 (x : Int)] w fun e w' => ∃ y, e = .returned (.tuple #[y, .int .i64 (garA fs i at' x).2]) ∧ Kept [] w w' ∧ Made w w' y (garA fs i at' x).1 := by
  have hG := rget_call b la fs i w h
  have hfew : Few fs := by obtain ⟨_, _, _, h⟩ := h; exact h
  have hs := getA_short hfew i
  unfold garA
  generalize getA fs i = q at *
  obtain ⟨f, e0⟩ := q
  have G := Lib.hid hG
  have S := Lib.hid hs
  clear hG hs hfew h
  simp only at *
  by_cases he : e0 = 0
  case neg =>
    rw [if_neg he]
    have n1 : (e0 != 0) = true := by simpa using he
    clear he
    go_enter Try.func38, Try.ntmps38
    go_wp2_with fail
    refine G.out.mono ?_
    rintro e w1 ⟨y, rfl, k1, h1⟩
    have K1 := Lib.hid k1
    clear k1 h1
    go_wp2_with fail
    go_ret2
    exact ⟨_, rfl, K1.out, made_nil _ _⟩
  rw [if_pos he]
  subst he
  have hp := mkA_len (n := (f.length : Int)) (at' := at') (w := x)
  have hM := fun W => rmake_call (f.length : Int) at' x hx W
  generalize mkA (f.length : Int) at' x = r at *
  obtain ⟨p, e1⟩ := r
  have M := Lib.hid hM
  have P := Lib.hid hp
  clear hM hp
  simp only at *
  by_cases he : e1 = 0
  case neg =>
    rw [if_neg he]
    have n1 : (e1 != 0) = true := by simpa using he
    clear he
    go_enter Try.func38, Try.ntmps38
    go_wp2_with fail
    refine G.out.mono ?_
    rintro e w1 ⟨y, rfl, k1, h1⟩
    obtain ⟨py, cy, rfl⟩ := h1.shape
    have K1 := Lib.hid k1
    clear k1 h1
    go_wp2_with fail
    refine (M.out _).mono ?_
    rintro e w2 ⟨y2, rfl, k2, h2⟩
    have K2 := Lib.hid (K1.out.trans k2)
    clear k2 h2
    go_wp2_with fail
    go_ret2
    exact ⟨_, rfl, K2.out, made_nil _ _⟩
  rw [if_pos he]
  subst he
  go_enter Try.func38, Try.ntmps38
  go_wp2_with fail
  refine G.out.mono ?_
  rintro e w1 ⟨y, rfl, k1, h1⟩
  obtain ⟨py, cy, rfl⟩ := h1.shape
  have K1 := Lib.hid k1
  have H1 := Lib.hid h1
  clear k1 h1
  go_wp2_with fail
  refine (M.out _).mono ?_
  rintro e w2 ⟨y2, rfl, k2, h2⟩
  have K2 := Lib.hid (K1.out.trans k2)
  have B1 := Lib.hid ((H1.out.kept k2 (by simp)).bytes)
  have B2 := Lib.hid h2.bytes
  clear k2 h2
  go_wp2_with fail
  refine (rturn_call _ _ _ _ _ B1.out B2.out (by have := P.out (by trivial); omega) (by have := S.out; omega)).mono ?_
  rintro e w3 ⟨y3, rfl, k3, h3⟩
  have K3 := Lib.hid (K2.out.trans k3)
  have H3 := Lib.hid h3
  have K2s := Lib.hid K2.out.size
  clear k3 h3
  go_wp2_with fail
  go_ret2
  exact ⟨_, rfl, K3.out, H3.out.1, fun k hk => Nat.le_trans K2s.out (H3.out.2 k hk)⟩
theorem tot_take (fs : List (List Int)) (k : Nat) (hk : k < fs.length) : tot (fs.take (k + 1)) = tot (fs.take k) + (fs.getD k []).length := by
  rw [List.take_add_one, List.getElem?_eq_getElem hk, Option.toList_some, tot_app, List.getD_eq_getElem?_getD, List.getElem?_eq_getElem hk, Option.getD_some]
theorem top_take (fs : List (List Int)) (k : Nat) (hk : k < fs.length) : top (fs.take (k + 1)) = if top (fs.take k) < (fs.getD k []).length then (fs.getD k []).length else top (fs.take k) := by
  rw [List.take_add_one, List.getElem?_eq_getElem hk, Option.toList_some, top_app, List.getD_eq_getElem?_getD, List.getElem?_eq_getElem hk, Option.getD_some]
theorem Few.take {fs : List (List Int)} (h : Few fs) (k : Nat) : Few (fs.take k) := ⟨by have := h.len; simp; omega, fun f hf => h.each f (List.mem_of_mem_take hf)⟩
def RbRel (W : World) (fs : List (List Int)) (n most i : Value) (w : World) : Prop :=
  ∃ k : Nat, k ≤ fs.length ∧ n = .int .i64 (tot (fs.take k) : Nat) ∧ most = .int .i64 (top (fs.take k) : Nat) ∧ i = .int .i64 (k : Nat) ∧ w = W
set_option maxRecDepth 100000 in
theorem rbytes_call (b : Nat) (la : Option Nat) (fs : List (List Int)) (w : World) (h : IsRef w b la fs) :
    Calls Try.prog 40 #[.pointer (some ⟨b, 0, none⟩)] w fun e w' => e = .returned (.tuple #[.int .i64 (tot fs : Nat), .int .i64 (top fs : Nat)]) ∧ w = w' := by
  obtain ⟨v, h1, ⟨vs, h3, h4, h5⟩, h7⟩ := h
  obtain ⟨pv, cv, rfl, hle⟩ := h3.shape
  have c0 := h1.cell 0 (v := .slice pv vs.length cv) rfl
  have H3 := Lib.hid h3
  have H4 := Lib.hid h4
  have H5 := Lib.hid h5
  have H7 := Lib.hid h7
  have hle2 : vs.length ≤ 4096 := by have := h7.len; omega
  clear h1 h3 h4 h5 h7 hle
  go_enter Try.func40, Try.ntmps40
  go_wp2_with fail
  go_loopw [4, 5, 6] (RbRel w fs) (fun _ _ i _ => vs.length - (intOf i).toNat)
  case atStart => exact ⟨0, Nat.zero_le _, rfl, rfl, rfl, rfl⟩
  case round =>
    obtain ⟨k, hk, rfl, rfl, rfl, rfl⟩ := hrel
    have ht := (H7.out.take k).tot
    have hp := (H7.out.take k).top
    have hkl : (fs.take k).length ≤ 4096 := (H7.out.take k).len
    rcases Nat.lt_or_ge k vs.length with hlt | hge
    · have hlt' : k < fs.length := by have := H4.out; omega
      obtain ⟨g, cv2, e2, hle, _, hc⟩ := H3.out.cell k hlt
      obtain ⟨rfl, rfl⟩ : pv = some ⟨g, 0, none⟩ ∧ cv = cv2 := by simpa using e2
      have hr := (H5.out k hlt').1
      obtain ⟨py, cy, ey⟩ := Row.sl hr
      rw [ey] at hc
      have hs := H7.out.get k
      have T1 := Lib.hid (tot_take fs k hlt')
      have T2 := Lib.hid (top_take fs k hlt')
      have n3 : k < cv := by omega
      have ew : wrap64 ((tot (fs.take k) : Nat) + ((fs.getD k []).length : Int)) = ((tot (fs.take k) + (fs.getD k []).length : Nat) : Int) := by rw [wrap64_id (by omega) (by omega)]; omega
      clear hr ey e2
      generalize (fs.getD k []).length = ll at *
      by_cases hgt : (top (fs.take k)) < ll
      · have n5 : decide ((ll : Int) > ((top (fs.take k) : Nat) : Int)) = true := by simp; omega
        go_wp2_with fail
        go_roundw
        case rel => exact ⟨k + 1, by omega, by rw [T1.out]; go_num, by rw [T2.out, if_pos hgt], by go_num, rfl⟩
        case measure => simp [intOf]; omega
      · have n5 : decide ((ll : Int) > ((top (fs.take k) : Nat) : Int)) = false := by simp; omega
        go_wp2_with fail
        go_roundw
        case rel => exact ⟨k + 1, by omega, by rw [T1.out]; go_num, by rw [T2.out, if_neg hgt], by go_num, rfl⟩
        case measure => simp [intOf]; omega
    · have e : fs.take k = fs := List.take_of_length_le (by have := H4.out; omega)
      rw [e] at *
      clear hp ht hkl
      go_wp2_with fail
      go_ret2
      exact ⟨rfl, rfl⟩
end Go.Proofs.Ytlafkeijikbenab.BagC
