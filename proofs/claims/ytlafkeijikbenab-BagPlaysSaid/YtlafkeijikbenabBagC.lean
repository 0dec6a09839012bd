/- Contracts of bag's calls. -/
import Derived.Test.YtlafkeijikbenabBagA
import Derived.Test.YtlafkeijikbenabMeterC
import Derived.Deep.RegionLaw
import Derived.Deep.RegionHeld3
import Derived.Deep.Cut
namespace Go.Proofs.Ytlafkeijikbenab.BagC
open Go Go.RowKit Go.Proofs.Ytlafkeijikbenab.Hp Go.Proofs.Ytlafkeijikbenab.Sl Go.Proofs.Ytlafkeijikbenab.Ap Go.Proofs.Ytlafkeijikbenab.MeterC
set_option linter.unusedVariables false
set_option linter.unusedSimpArgs false
def tot (fs : List (List Int)) : Nat := fs.foldl (fun n f => n + f.length) 0
def top (fs : List (List Int)) : Nat := fs.foldl (fun n f => if n < f.length then f.length else n) 0
theorem tot_app (fs : List (List Int)) (f : List Int) : tot (fs ++ [f]) = tot fs + f.length := by simp [tot]
theorem top_app (fs : List (List Int)) (f : List Int) : top (fs ++ [f]) = if top fs < f.length then f.length else top fs := by unfold top; rw [List.foldl_append]; rfl
/-- What a bag may hold. -/
structure Few (fs : List (List Int)) : Prop where
  len : fs.length ≤ 4096
  each : ∀ f ∈ fs, f.length ≤ 27
theorem Few.tot {fs : List (List Int)} (h : Few fs) : BagC.tot fs ≤ 27 * fs.length := by
  have : ∀ (n : Nat) (l : List (List Int)), (∀ f ∈ l, f.length ≤ 27) → l.foldl (fun n f => n + f.length) n ≤ n + 27 * l.length := by
    intro n l
    induction l generalizing n with
    | nil => intro _; simp
    | cons f l ih =>
      intro hl
      have h1 := hl f (by simp)
      have h2 := ih (n + f.length) (fun g hg => hl g (by simp [hg]))
      simp only [List.foldl_cons, List.length_cons]
      omega
  have := this 0 fs h.each
  simpa [BagC.tot] using this
theorem Few.top {fs : List (List Int)} (h : Few fs) : BagC.top fs ≤ 27 := by
  have : ∀ (n : Nat) (l : List (List Int)), n ≤ 27 → (∀ f ∈ l, f.length ≤ 27) → l.foldl (fun n f => if n < f.length then f.length else n) n ≤ 27 := by
    intro n l
    induction l generalizing n with
    | nil => intro h _; simpa using h
    | cons f l ih =>
      intro hn hl
      have h1 := hl f (by simp)
      simp only [List.foldl_cons]
      exact ih _ (by split <;> omega) (fun g hg => hl g (by simp [hg]))
  exact this 0 fs (by omega) h.each
theorem Few.get {fs : List (List Int)} (h : Few fs) (i : Nat) : (fs.getD i []).length ≤ 27 := by
  rw [List.getD_eq_getElem?_getD]
  rcases Nat.lt_or_ge i fs.length with hi | hi
  · rw [List.getElem?_eq_getElem hi]; exact h.each _ (List.getElem_mem _)
  · rw [List.getElem?_eq_none hi]; simp
/-- What the meter says of them. -/
structure Metered (mm : M) (fs : List (List Int)) : Prop where
  total : mm.total = tot fs
  any : mm.any = decide (fs ≠ [])
  peak : (if mm.any then mm.peak else 0) = top fs
theorem Metered.put {mm : M} {fs : List (List Int)} (h : Metered mm fs) (h7 : Few fs) (l : List Int) (hl : l.length ≤ 27) : Metered ((mm.add (IntKind.u64.wrap (l.length : Int))).raise (l.length : Int)) (fs ++ [l]) := by
  obtain ⟨total, peak, any, flags, on, last⟩ := mm
  obtain ⟨h1, h2, h3⟩ := h
  simp only at h1 h2 h3
  have ht := h7.tot
  have h4 := h7.len
  have ew : IntKind.u64.wrap (l.length : Int) = (l.length : Int) := by rw [IntKind.wrap_u64]; omega
  have ea : addv total (l.length : Int) = ((tot fs + l.length : Nat) : Int) := by
    have e : IntKind.u64.wrap (total + (l.length : Int)) = total + (l.length : Int) := by rw [IntKind.wrap_u64]; omega
    unfold addv
    rw [e, if_neg (by omega)]; omega
  rw [ew]
  unfold M.add
  simp only
  rw [ea]
  have tp := top_app fs l
  have tt := tot_app fs l
  cases any with
  | false =>
    have hfs : fs = [] := by simpa using h2.symm
    subst hfs
    have e0 : top ([] : List (List Int)) = 0 := rfl
    rw [e0] at tp
    refine ⟨?_, ?_, ?_⟩
    · simp only [M.raise, MeterC.raised, Bool.not_false, Bool.true_or, if_true]; rw [tt]
    · simp [M.raise, MeterC.raised]
    · simp only [M.raise, MeterC.raised, Bool.not_false, Bool.true_or, if_true]; rw [tp]; split <;> omega
  | true =>
    have hfs : fs ≠ [] := by simpa using h2.symm
    rw [if_pos rfl] at h3
    by_cases hlt : peak < (l.length : Int)
    · have hd := decide_eq_true hlt
      refine ⟨?_, ?_, ?_⟩
      · simp only [M.raise, MeterC.raised, Bool.not_true, Bool.false_or, hd, if_true]; rw [tt]
      · simp [M.raise, MeterC.raised, hd]
      · simp only [M.raise, MeterC.raised, Bool.not_true, Bool.false_or, hd, if_true]; rw [tp, if_pos (by omega)]
    · have hd := decide_eq_false hlt
      refine ⟨?_, ?_, ?_⟩
      · simp only [M.raise, MeterC.raised, Bool.not_true, Bool.false_or, hd]; rw [tt]; rfl
      · simp [M.raise, MeterC.raised, hd]
      · simp only [M.raise, MeterC.raised, Bool.not_true, Bool.false_or, hd, Bool.false_eq_true, if_false, if_true]; rw [tp, if_neg (by omega)]; exact h3
theorem Few.put {fs : List (List Int)} (h : Few fs) (l : List Int) (hl : l.length ≤ 27) (hf : fs.length < 4096) : Few (fs ++ [l]) :=
  ⟨by simp; omega, fun f hm => by
    rcases List.mem_append.1 hm with hm | hm
    · exact h.each f hm
    · simp at hm; subst hm; exact hl⟩
def IsBagP (P : Nat → Prop) (w : World) (b m : Nat) (la : Option Nat) (fs : List (List Int)) : Prop :=
  ∃ v mm, Has w b 89 [v, .pointer (some ⟨m, 0, none⟩)] ∧ IsM w m mm ∧ HeldP P w la v fs ∧ Metered mm fs ∧ Few fs
abbrev IsBag (w : World) (b m : Nat) (la : Option Nat) (fs : List (List Int)) : Prop := IsBagP All w b m la fs
theorem IsBagP.all {P : Nat → Prop} {w : World} {b m : Nat} {la : Option Nat} {fs : List (List Int)} (h : IsBagP P w b m la fs) : IsBag w b m la fs := by
  obtain ⟨v, mm, h1, h2, h3, h4⟩ := h
  exact ⟨v, mm, h1, h2, h3.all, h4⟩
theorem Held.ty {P : Nat → Prop} {w : World} {a : Option Nat} {v : Value} {fs : List (List Int)} (h : HeldP P w a v fs) {g : Nat} (hg : a = some g) : ∃ cs, Has w g 22 cs := by
  obtain ⟨vs, h1, _⟩ := h
  rcases h1 with ⟨_, _, rfl⟩ | ⟨g', cap, cur, rfl, _, h, _⟩
  · cases hg
  · cases hg; exact ⟨_, h⟩
theorem Has.neq {w : World} {b b' : Nat} {T T' : TypeId} {cs cs' : List Value} (h : Has w b T cs) (h' : Has w b' T' cs') (hne : T ≠ T') : b ≠ b' := by
  rintro rfl
  unfold Has at h h'
  rw [h] at h'
  simp at h'
  exact hne h'.2
/-- The bag where other blocks change: none of its own, none of bytes. -/
theorem IsBag.keptP {P : Nat → Prop} {w w' : World} {b m : Nat} {la : Option Nat} {fs : List (List Int)} {S : List Nat} (h : IsBagP P w b m la fs) (k : Kept S w w') (hS : ∀ x, x ∈ S → x < w.heap.size → (∃ T cs, Has w x T cs ∧ (T ≠ 5 ∨ ¬ P x) ∧ T ≠ 89 ∧ T ≠ 129) ∧ la ≠ some x) : IsBagP P w' b m la fs := by
  obtain ⟨v, mm, h1, h2, h3, h4, h5⟩ := h
  refine ⟨v, mm, k.has h1 (fun hm => ?_), k.has h2 (fun hm => ?_), h3.kept k (fun x hx hl => ?_) (fun g hg hm => ?_), h4, h5⟩
  · obtain ⟨⟨T, cs, q, n1, n2, n3⟩, _⟩ := hS _ hm h1.lt
    exact Has.neq q h1 n2 rfl
  · obtain ⟨⟨T, cs, q, n1, n2, n3⟩, _⟩ := hS _ hm h2.lt
    exact Has.neq q h2 n3 rfl
  · obtain ⟨⟨T, cs, q, n1, n2, n3⟩, _⟩ := hS _ hx hl
    rcases n1 with n1 | n1
    · exact .inl ⟨T, cs, q, n1⟩
    · exact .inr n1
  · obtain ⟨cs, q⟩ := Held.ty h3 hg
    exact (hS _ hm q.lt).2 hg
theorem IsBag.kept {w w' : World} {b m : Nat} {la : Option Nat} {fs : List (List Int)} {S : List Nat} (h : IsBag w b m la fs) (k : Kept S w w') (hS : ∀ x, x ∈ S → x < w.heap.size → (∃ T cs, Has w x T cs ∧ T ≠ 5 ∧ T ≠ 89 ∧ T ≠ 129) ∧ la ≠ some x) : IsBag w' b m la fs :=
  IsBag.keptP h k (fun x hx hl => by
    obtain ⟨⟨T, cs, q, n1, n2, n3⟩, n4⟩ := hS x hx hl
    exact ⟨⟨T, cs, q, .inl n1, n2, n3⟩, n4⟩)
theorem new_callP (P : Nat → Prop) (w : World) : Calls Try.prog 31 #[] w fun e w' => ∃ b m, e = .returned (.pointer (some ⟨b, 0, none⟩)) ∧ Kept [] w w' ∧ IsBagP P w' b m none [] ∧ w.heap.size ≤ b ∧ w.heap.size ≤ m := by
  go_enter Try.func31, Try.ntmps31
  go_wp2_with fail
  refine (MeterC.new_call _).mono ?_
  rintro e w2 ⟨rfl, k2, h2⟩
  go_wp2
  go_ret
  have hh := Has.new w2 89 [.slice none 0 0, .pointer (some ⟨w.heap.size, 0, none⟩)]
  exact ⟨_, _, rfl, k2.alloc _, ⟨_, M.new, hh, h2.alloc _, ⟨[], .inl ⟨rfl, rfl, rfl⟩, rfl, by simp⟩, ⟨rfl, rfl, rfl⟩, ⟨by simp, by simp⟩⟩, k2.size, Nat.le_refl _⟩
theorem new_call (w : World) : Calls Try.prog 31 #[] w fun e w' => ∃ b m, e = .returned (.pointer (some ⟨b, 0, none⟩)) ∧ Kept [] w w' ∧ IsBag w' b m none [] ∧ w.heap.size ≤ b ∧ w.heap.size ≤ m := new_callP All w
set_option maxRecDepth 100000 in
set_option maxHeartbeats 1600000 in
theorem put_callP (P : Nat → Prop) (b m : Nat) (la : Option Nat) (fs : List (List Int)) (s : Value) (l : List Int) (w : World) (hP : ∀ k, w.heap.size ≤ k → P k) (h : IsBagP P w b m la fs) (hs : Bytes w s l) (hl : l.length ≤ 27) (hf : fs.length < 4096) :
    Calls Try.prog 32 #[.pointer (some ⟨b, 0, none⟩), s] w fun e w' => e = .returned (.tuple #[.int .i64 (fs.length : Nat), .int .i64 0]) ∧ Kept (b :: m :: la.toList) w w' ∧ ∃ la', (la' = la ∨ ∃ g, la' = some g ∧ w.heap.size ≤ g) ∧ IsBagP P w' b m la' (fs ++ [l]) := by
  obtain ⟨v, mm, h1, h2, ⟨vs, h3, h4, h5⟩, h6, h7⟩ := h
  obtain ⟨p, c, rfl⟩ : ∃ p c, s = .slice p l.length c := by rcases hs with ⟨rfl, rfl⟩ | ⟨x, cap, rfl, _⟩ <;> exact ⟨_, _, rfl⟩
  obtain ⟨pv, cv, rfl, hle⟩ := h3.shape
  have c0 := h1.cell 0 (v := .slice pv vs.length cv) rfl
  have c1 := h1.cell 1 (v := .pointer (some ⟨m, 0, none⟩)) rfl
  have z0 := h1.free 0
  have e1 : decide ((l.length : Int) > 27) = false := by simp; omega
  have e2 : decide ((vs.length : Int) ≥ 4096) = false := by simp; omega
  have HS := Lib.hid hs
  have H1 := Lib.hid h1
  have H2 := Lib.hid h2
  have H3 := Lib.hid h3
  have H5 := Lib.hid h5
  have HL := Lib.hid hl
  clear hs h1 h2 h3 h5 hl
  have hsl : vs.length ≤ 1000000 := by omega
  have hone := Lib.hid (Held.one h4 H5.out)
  have H4 := Lib.hid h4
  have hnb : b ∉ la.toList := by
    intro hm
    simp at hm
    obtain ⟨cs, q⟩ := Held.ty (⟨vs, H3.out, h4, H5.out⟩ : HeldP P w la _ fs) hm
    exact Has.neq H1.out q (by decide) rfl
  have nb := Lib.hid hnb
  clear h4 hle hnb
  go_enter Try.func32, Try.ntmps32
  go_wp2_with fail
  go_region_law (first
    | (refine step_put (by rfl) _ _ (by rfl) la _ vs _ _ R1.out T1.out (Row.oneCell Y.out.1) hone.out (by rfl) (by rfl) hsl ?_; intro u2 w2 hp; obtain ⟨la2, hla2, hr2⟩ := hp.rows; obtain ⟨pu, cu, hu, _⟩ := hr2.shape; rw [List.length_append, List.length_singleton] at hu; subst hu; have R2 := Lib.hid (And.intro hla2 hr2); have B2 := Lib.hid (hp.kept.has ((K1.out.alloc (.cells #[.slice py l.length cy] 22)).has H1.out (by simp)) nb.out); have f0 := B2.out.cell 0 (v := .slice pv vs.length cv) rfl; have g0 := B2.out.free 0; have P2 := Lib.hid hp; clear hp hr2 hla2)
    | (go_simp; go_at_call 45; refine (clone_call _ l _ (HS.out.kept ((Kept.refl [] w).drew) (by simp)) (by have := HL.out; omega)).mono ?_; rintro e w1 ⟨y, rfl, k1, hcl⟩; obtain ⟨py, cy, hy⟩ := Row.sl (row_of_cloned HS.out hcl).1; subst hy; have K1 := Lib.hid ((Kept.refl [] w).drew.trans k1); have Y := Lib.hid (row_of_cloned HS.out hcl); have R1 := Lib.hid (H3.out.kept (K1.out.alloc (.cells #[.slice py l.length cy] 22)) (by simp)); have T1 := Lib.hid (Has.new w1 22 [.slice py l.length cy]); have d0 := (K1.out.has H1.out (by simp)).cell 0 (v := .slice pv vs.length cv) rfl; have d1 := ((K1.out.alloc (.cells #[.slice py l.length cy] 22)).has H1.out (by simp)).cell 0 (v := .slice pv vs.length cv) rfl; clear k1 hcl))
  all_goals (
    have X := K1.out.alloc (.cells #[.slice py l.length cy] 22)
    obtain ⟨la', hla', hh2⟩ := Held.put R1.out H4.out (fun i hi => Row.keptP (H5.out i hi) X (by simp)) (Row.keptP ⟨Y.out.1, fun k hk => hP k (Y.out.2 k hk)⟩ ((Kept.refl [] w1).alloc (.cells #[.slice py l.length cy] 22)) (by simp)) P2.out
    have KW := (Kept.refl [b] w2).set ⟨b, 0, none⟩ (.slice pu (vs.length + 1) cu) (by simp)
    have B3 := B2.out.set 0 (.slice pu (vs.length + 1) cu)
    have M2 : IsM w2 m mm := P2.out.kept.has (X.has H2.out (by simp)) (by
      intro hm
      simp at hm
      obtain ⟨cs, q⟩ := Held.ty (⟨vs, H3.out, H4.out, H5.out⟩ : HeldP P w la _ fs) hm
      exact Has.neq H2.out q (by decide) rfl)
    have M3 : IsM _ m mm := KW.has M2 (by simp; exact Has.neq M2 B2.out (by decide))
    have H6 := HeldP.kept hh2 KW (by intro x hx hl; simp at hx; subst hx; exact .inl ⟨_, _, B2.out, by decide⟩) (by intro g hg hm; simp at hm; subst hm; obtain ⟨cs, q⟩ := Held.ty hh2 hg; exact Has.neq B2.out q (by decide) rfl)
    have K3 : Kept (b :: m :: la.toList) w (w2.setCell ⟨b, 0, none⟩ (.slice pu (vs.length + 1) cu)) := ((X.mono (by simp)).trans (P2.out.kept.mono (by intro k hk; simp [hk]))).trans (KW.mono (by simp))
    have hla3 : la' = la ∨ ∃ g, la' = some g ∧ w.heap.size ≤ g := by
      rcases hla' with h | ⟨g, h, hg⟩
      · exact .inl h
      · exact .inr ⟨g, h, Nat.le_trans X.size hg⟩
    have HB3 := Lib.hid B3
    have HM3 := Lib.hid M3
    have HH6 := Lib.hid H6
    have HK3 := Lib.hid K3
    have HLA := Lib.hid hla3
    clear M2 B3 M3 H6 K3 hla3 hla' KW X c0 c1 z0 d0 d1 f0 g0 K1 Y R1 T1 R2 B2 P2 hh2
    generalize w2.setCell ⟨b, 0, none⟩ (.slice pu (vs.length + 1) cu) = w3 at *
    have c1 := HB3.out.cell 1 (v := .pointer (some ⟨m, 0, none⟩)) rfl
    go_wp2_with fail)
  all_goals (
    refine (add_call m mm _ _ HM3.out).mono ?_
    rintro e w4 ⟨rfl, k4, h4'⟩
    have nbm : b ≠ m := Has.neq HB3.out HM3.out (by decide)
    have B4 := Lib.hid (k4.has HB3.out (by simp; exact nbm))
    have H4' := Lib.hid h4'
    have K4 := Lib.hid k4
    clear c1 h4' k4
    have c1 := B4.out.cell 1 (v := .pointer (some ⟨m, 0, none⟩)) rfl
    go_wp2_with fail
    refine (raise_call m _ _ _ H4'.out).mono ?_
    rintro e w5 ⟨rfl, k5, h5'⟩
    have B5 := Lib.hid (k5.has B4.out (by simp; exact nbm))
    have H5' := Lib.hid h5'
    have K5 := Lib.hid k5
    have NBM := Lib.hid nbm
    clear c1 h5' k5 nbm
    have c0 := B5.out.cell 0 (v := .slice pu (vs.length + 1) cu) rfl
    go_wp2_with fail
    go_ret2
    have K2 := HK3.out.trans ((K4.out.mono (by simp)).trans (K5.out.mono (by simp)))
    have q := NBM.out
    have h4 := H4.out
    refine ⟨by go_num, K2, la', HLA.out, _, _, B5.out, H5'.out, HeldP.kept HH6.out (K4.out.trans K5.out) ?_ ?_, h6.put h7 l HL.out, h7.put l HL.out hf⟩
    · intro x hx hl
      simp at hx
      subst hx
      exact .inl ⟨_, _, HM3.out, by decide⟩
    · intro g hg hm
      simp at hm
      subst hm
      obtain ⟨cs, q⟩ := Held.ty HH6.out hg
      exact Has.neq HM3.out q (by decide) rfl)
theorem put_call (b m : Nat) (la : Option Nat) (fs : List (List Int)) (s : Value) (l : List Int) (w : World) (h : IsBag w b m la fs) (hs : Bytes w s l) (hl : l.length ≤ 27) (hf : fs.length < 4096) :
    Calls Try.prog 32 #[.pointer (some ⟨b, 0, none⟩), s] w fun e w' => e = .returned (.tuple #[.int .i64 (fs.length : Nat), .int .i64 0]) ∧ Kept (b :: m :: la.toList) w w' ∧ ∃ la', (la' = la ∨ ∃ g, la' = some g ∧ w.heap.size ≤ g) ∧ IsBag w' b m la' (fs ++ [l]) :=
  put_callP All b m la fs s l w (fun _ _ => trivial) h hs hl hf
end Go.Proofs.Ytlafkeijikbenab.BagC
