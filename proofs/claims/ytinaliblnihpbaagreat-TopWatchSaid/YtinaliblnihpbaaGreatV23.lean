/- The walks and the plain laws of NetC, TopA, TopB, TopD, TopE. -/
import Derived.Test.YtinaliblnihpbaaGreatV22
set_option linter.unusedVariables false
set_option linter.unusedSimpArgs false
open Go.Lib (hid)
namespace Go.Proofs.YtinaliblnihpbaaGreat
namespace NetC
open Go Go.RowKit Hp Sl Ow Rw TM ParW WdC
variable {w w' : World} {g : Nat} {v : Value} {ps : List P} {p : P}
theorem results_cell1 {P : Program} {fn : Func} {c : Tmp} {T T2 : TypeId} (h : fn.results = #[.cell c T]) {tmps : Array Value} {w : World} {b : Nat} {cs : List Value} {d : TypeDesc} (h0 : Has w b T2 cs) (hp : tmps.getD c undef = .pointer (some ⟨b, 0, none⟩))
    (hu : P.underlying T = some d) (hd : d.isRow = true) (hi : (P.info? T).map (·.size) = some cs.length) : (results fn tmps).run P w = .ok (.agg cs.toArray) w := by
  have := run_loadVar_mid (P := P) w b 0 T cs d (fun j v hv => by rw [Nat.zero_add]; exact h0.cell j hv) hu hd hi
  simp only [Array.getD_eq_getD_getElem?] at hp
  simp [results, h, hp, asAddr, this]
theorem infoP5 : (Tryz.prog.info? 50).map (·.size) = some 5 := by kernel_rfl
theorem infoN3 : (Tryz.prog.info? 26).map (·.size) = some 3 := by kernel_rfl
def small : P := ⟨7, 2, 1, 10, 9⟩
set_option maxRecDepth 100000 in
theorem small_call (w : World) : Calls Tryz.prog 54 #[] w fun e w' => e = .returned (pval small) ∧ Kept [] w w' := by
  have H := hid (Has.new w 50 (pcells small))
  go_enter Tryz.func54, Tryz.ntmps54
  go_wp2_with fail
  refine bodyPost_ret (results_cell1 rfl H.out rfl Tryz.underlying50 rfl infoP5) rfl ?_
  exact ⟨rfl, (Kept.refl [] w).alloc _⟩
def pairs (k : Nat) : List P := (List.range k).map (fun (i : Nat) => (⟨7 + (i : Int), 2, 1, 10 + (i : Int), 9⟩ : P))
theorem pairs_len (k : Nat) : (pairs k).length = k := by simp [pairs]
theorem pairs_at (k i : Nat) (h : i < k) : (pairs k)[i]? = some ⟨7 + (i : Int), 2, 1, 10 + (i : Int), 9⟩ := by simp [pairs, h]
theorem pairs_good (k : Nat) (h : k ≤ 8) : Good (pairs k) := by
  refine ⟨fun p hp => ?_, fun i j p q hij hi hj => ?_⟩
  · obtain ⟨i, hi, rfl⟩ := List.mem_map.1 hp
    have := List.mem_range.1 hi
    exact ⟨by dsimp only; omega, by dsimp only; omega, by dsimp only; omega, by dsimp only; omega, by dsimp only; omega⟩
  · have h1 := (List.getElem?_eq_some_iff.1 hi).1
    have h2 := (List.getElem?_eq_some_iff.1 hj).1
    rw [pairs_len] at h1 h2
    rw [pairs_at k i h1] at hi
    rw [pairs_at k j h2] at hj
    cases hi; cases hj
    dsimp only; omega
theorem pairs_succ (k : Nat) : (pairs (k + 1)).flatMap pcells = (pairs k).flatMap pcells ++ pcells ⟨7 + (k : Int), 2, 1, 10 + (k : Int), 9⟩ := by
  simp [pairs, List.range_succ]
theorem prm_of {g : Nat} (h : Rws w 50 5 (some g) v ps.length (ps.flatMap pcells)) (l : 1 ≤ ps.length) : Prm w g v ps := by
  have hl := h.lt rfl
  obtain ⟨p, cap, rfl, hle⟩ := h.shape
  have e : p = some ⟨g, 0, none⟩ := by
    obtain ⟨_, _, ⟨_, e, _⟩ | ⟨g', _, _, e1, e2, _⟩⟩ := h
    · omega
    · cases e1; cases e2; rfl
  subst e
  refine ⟨cap, rfl, hle, hl, fun i p hp => ?_⟩
  have c : ∀ j u, j < 5 → (pcells p)[j]? = some u → w.cell? ⟨g, i * 5 + j, none⟩ = some u := fun j u hj hu => by
    obtain ⟨g', _, _, _, e, q⟩ := h.cell (i * 5 + j) u (by rw [flat_at ps i p hp j hj]; exact hu)
    cases e; exact q
  exact ⟨c 0 _ (by omega) rfl, c 1 _ (by omega) rfl, c 2 _ (by omega) rfl, c 3 _ (by omega) rfl, c 4 _ (by omega) rfl⟩
def NetIs (W w : World) (v : Value) (ps : List P) : Prop :=
  ∃ g1 g2 v1 v2, v = .agg #[v1, v2, .int .u32 50] ∧ g1 ≠ g2 ∧ Kept [] W w ∧ Prm w g1 v1 ps ∧ Prm w g2 v2 ps ∧ W.heap.size ≤ g1 ∧ W.heap.size ≤ g2 ∧ (∃ cs, Has w g1 50 cs) ∧ ∃ cs, Has w g2 50 cs
def PrRel (W : World) (Y : Nat) (n : Nat) (i : Value) (w : World) : Prop :=
  ∃ (k : Nat) (a1 a2 : Option Nat) (v1 v2 : Value), k ≤ n + 1 ∧ i = .int .i64 (k : Nat) ∧ Kept [] W w ∧ Has w Y 26 [.slice none 0 0, .slice none 0 0, .int .u32 0] ∧ Has w (Y + 1) 26 [v1, v2, .int .u32 50] ∧ Rws w 50 5 a1 v1 k ((pairs k).flatMap pcells) ∧ Rws w 50 5 a2 v2 k ((pairs k).flatMap pcells) ∧ (∀ g, a1 = some g → W.heap.size ≤ g) ∧ (∀ g, a2 = some g → W.heap.size ≤ g) ∧ ∀ g, a1 = some g → a2 ≠ some g
structure PrS (W w : World) (Y D k1 k2 : Nat) (a1 a2 : Option Nat) (v1 v2 : Value) (q : P) : Prop where
  kw : Kept [] W w
  y : Has w Y 26 [.slice none 0 0, .slice none 0 0, .int .u32 0]
  x : Has w (Y + 1) 26 [v1, v2, .int .u32 50]
  r1 : Rws w 50 5 a1 v1 k1 ((pairs k1).flatMap pcells)
  r2 : Rws w 50 5 a2 v2 k2 ((pairs k2).flatMap pcells)
  o1 : ∀ g, a1 = some g → W.heap.size ≤ g
  o2 : ∀ g, a2 = some g → W.heap.size ≤ g
  ne : ∀ g, a1 = some g → a2 ≠ some g
  d : Has w D 50 (pcells q)
  ld1 : ∀ g, a1 = some g → g ≠ D
  ld2 : ∀ g, a2 = some g → g ≠ D
  wd : W.heap.size ≤ D
  wy : W.heap.size ≤ Y
theorem PrS.put1 {W w w3 : World} {Y D k1 k2 : Nat} {a1 a2 : Option Nat} {v1 v2 u3 : Value} {q : P} {o : Obj} (h : PrS W w Y D k1 k2 a1 a2 v1 v2 q) (hq : q = ⟨7 + (k1 : Int), 2, 1, 10 + (k1 : Int), 9⟩) (hp : PutS (w.alloc o) w3 50 5 a1 u3 k1 ((pairs k1).flatMap pcells) (pcells q)) :
    ∃ a', PrS W (w3.setCell ⟨Y + 1, 0, none⟩ u3) Y D (k1 + 1) k2 a' a2 u3 v2 q := by
  have ka := (Kept.refl [] w).alloc o
  obtain ⟨⟨a', ha, hr⟩, hk⟩ := hp
  have nt : ∀ {b T cs}, Has w b T cs → T ≠ 50 → b ∉ a1.toList := fun hb hT hm => by
    simp at hm
    obtain ⟨c, hc⟩ := h.r1.ty hm
    exact Ow.Has.ne hb hc hT rfl
  have kl := (Kept.refl [Y + 1] w3).set ⟨Y + 1, 0, none⟩ u3 (by simp)
  have hx3 := hk.has (ka.has h.x (by simp)) (nt h.x (by decide))
  have hy3 := hk.has (ka.has h.y (by simp)) (nt h.y (by decide))
  have hd3 := hk.has (ka.has h.d (by simp)) (fun hm => h.ld1 _ (by simpa using hm) rfl)
  have h23 := (h.r2.kept ka (by simp)).kept hk (fun g hg hm => by simp at hm; exact h.ne _ hm hg)
  have kW : Kept [] W (w3.setCell ⟨Y + 1, 0, none⟩ u3) := by
    refine ((h.kw.trans ka).fresh hk (fun i hi hl => ?_)).fresh kl (fun i hi hl => ?_)
    · simp at hi; have := h.o1 i hi; omega
    · simp at hi; have := h.wy; omega
  have nx : ∀ {g v n xs a}, Rws w3 50 5 a v n xs → a = some g → g ∉ [Y + 1] := fun hr hg hm => by
    simp at hm
    obtain ⟨c, hc⟩ := hr.ty hg
    exact Ow.Has.ne hc hx3 (by decide) hm
  have oa : ∀ g, a' = some g → (a1 = some g ∨ w.heap.size ≤ g) := fun g hg => by
    rcases ha with e | ⟨g', e, hgb⟩
    · exact .inl (e ▸ hg)
    · rw [e] at hg; cases hg; simp at hgb; exact .inr (by omega)
  have e3 : (pairs k1).flatMap pcells ++ pcells q = (pairs (k1 + 1)).flatMap pcells := by rw [pairs_succ, hq]
  rw [e3] at hr
  have hr' := hr.kept kl (fun g hg => nx hr hg)
  have h23' := h23.kept kl (fun g hg => nx h23 hg)
  refine ⟨a', kW, kl.has hy3 (by simp), hx3.set 0 u3, hr', h23', ?_, ?_, ?_, kl.has hd3 (by simp; have := Ow.Has.ne hd3 hx3 (by decide); exact this), ?_, ?_, h.wd, h.wy⟩
  · exact fun g hg => (oa g hg).elim (h.o1 g) (fun q => Nat.le_trans h.kw.size q)
  · exact h.o2
  · exact fun g hg h2 => (oa g hg).elim (fun q => h.ne g q h2) (fun q => by have := h.r2.lt h2; omega)
  · exact fun g hg => (oa g hg).elim (h.ld1 g) (fun q e => by have := h.d.lt; omega)
  · exact h.ld2
theorem PrS.put2 {W w w3 : World} {Y D k1 k2 : Nat} {a1 a2 : Option Nat} {v1 v2 u3 : Value} {q : P} {o : Obj} (h : PrS W w Y D k1 k2 a1 a2 v1 v2 q) (hq : q = ⟨7 + (k2 : Int), 2, 1, 10 + (k2 : Int), 9⟩) (hp : PutS (w.alloc o) w3 50 5 a2 u3 k2 ((pairs k2).flatMap pcells) (pcells q)) :
    ∃ a', PrS W (w3.setCell ⟨Y + 1, 1, none⟩ u3) Y D k1 (k2 + 1) a1 a' v1 u3 q := by
  have ka := (Kept.refl [] w).alloc o
  obtain ⟨⟨a', ha, hr⟩, hk⟩ := hp
  have nt : ∀ {b T cs}, Has w b T cs → T ≠ 50 → b ∉ a2.toList := fun hb hT hm => by
    simp at hm
    obtain ⟨c, hc⟩ := h.r2.ty hm
    exact Ow.Has.ne hb hc hT rfl
  have kl := (Kept.refl [Y + 1] w3).set ⟨Y + 1, 1, none⟩ u3 (by simp)
  have hx3 := hk.has (ka.has h.x (by simp)) (nt h.x (by decide))
  have hy3 := hk.has (ka.has h.y (by simp)) (nt h.y (by decide))
  have hd3 := hk.has (ka.has h.d (by simp)) (fun hm => h.ld2 _ (by simpa using hm) rfl)
  have h23 := (h.r1.kept ka (by simp)).kept hk (fun g hg hm => by simp at hm; exact h.ne _ hg hm)
  have kW : Kept [] W (w3.setCell ⟨Y + 1, 1, none⟩ u3) := by
    refine ((h.kw.trans ka).fresh hk (fun i hi hl => ?_)).fresh kl (fun i hi hl => ?_)
    · simp at hi; have := h.o2 i hi; omega
    · simp at hi; have := h.wy; omega
  have nx : ∀ {g v n xs a}, Rws w3 50 5 a v n xs → a = some g → g ∉ [Y + 1] := fun hr hg hm => by
    simp at hm
    obtain ⟨c, hc⟩ := hr.ty hg
    exact Ow.Has.ne hc hx3 (by decide) hm
  have oa : ∀ g, a' = some g → (a2 = some g ∨ w.heap.size ≤ g) := fun g hg => by
    rcases ha with e | ⟨g', e, hgb⟩
    · exact .inl (e ▸ hg)
    · rw [e] at hg; cases hg; simp at hgb; exact .inr (by omega)
  have e3 : (pairs k2).flatMap pcells ++ pcells q = (pairs (k2 + 1)).flatMap pcells := by rw [pairs_succ, hq]
  rw [e3] at hr
  have hr' := hr.kept kl (fun g hg => nx hr hg)
  have h23' := h23.kept kl (fun g hg => nx h23 hg)
  refine ⟨a', kW, kl.has hy3 (by simp), hx3.set 1 u3, h23', hr', ?_, ?_, ?_, kl.has hd3 (by simp; have := Ow.Has.ne hd3 hx3 (by decide); exact this), ?_, ?_, h.wd, h.wy⟩
  · exact h.o1
  · exact fun g hg => (oa g hg).elim (h.o2 g) (fun q => Nat.le_trans h.kw.size q)
  · exact fun g hg h2 => (oa g h2).elim (fun q => h.ne g hg q) (fun q => by have := h.r1.lt hg; omega)
  · exact h.ld1
  · exact fun g hg => (oa g hg).elim (h.ld2 g) (fun q e => by have := h.d.lt; omega)
set_option maxRecDepth 100000 in
set_option maxHeartbeats 3200000 in
theorem pair1 (w : World) : Calls Tryz.prog 25 #[.int .i64 1] w fun e w' => ∃ v, e = .returned v ∧ NetIs w w' v (pairs 2) := by
  go_enter Tryz.func25, Tryz.ntmps25
  go_upto_region 2 with (fail)
  have KA := hid (((Kept.refl [] w).alloc (.cells #[.slice none 0 0, .slice none 0 0, .int .u32 0] 26)).alloc (.cells #[.slice none 0 0, .slice none 0 0, .int .u32 50] 26))
  have YA := hid ((Has.new w 26 [.slice none 0 0, .slice none 0 0, .int .u32 0]).alloc (.cells #[.slice none 0 0, .slice none 0 0, .int .u32 50] 26))
  have XA := hid (Has.new (w.alloc (.cells #[.slice none 0 0, .slice none 0 0, .int .u32 0] 26)) 26 [.slice none 0 0, .slice none 0 0, .int .u32 50])
  rw [show (w.alloc (.cells #[.slice none 0 0, .slice none 0 0, .int .u32 0] 26)).heap.size = w.heap.size + 1 by simp] at XA
  generalize (w.alloc (.cells #[.slice none 0 0, .slice none 0 0, .int .u32 0] 26)).alloc (.cells #[.slice none 0 0, .slice none 0 0, .int .u32 50] 26) = wa at KA YA XA ⊢
  obtain ⟨Y, hY⟩ : ∃ Y, Y = w.heap.size := ⟨_, rfl⟩
  rw [← hY] at YA XA ⊢
  have YY := hid (Nat.le_of_eq hY.symm)
  clear hY
  go_wp2_with fail
  go_loopw [4] (PrRel w Y 1) (fun i _ => 2 - (intOf i).toNat)
  case atStart => exact ⟨0, none, none, _, _, by omega, rfl, KA.out, YA.out, XA.out, Rws.none _ _ _, Rws.none _ _ _, by simp, by simp, by simp⟩
  case round =>
    obtain ⟨k, a1, a2, v1, v2, hk, rfl, hK, hY, hX, h1, h2, o1, o2, ne⟩ := hrel
    obtain ⟨wr, ⟨hK', hY', hX', h1', h2'⟩, hwr⟩ : ∃ z, (Kept [] w z ∧ Has z Y 26 [.slice none 0 0, .slice none 0 0, .int .u32 0] ∧ Has z (Y + 1) 26 [v1, v2, .int .u32 50] ∧ Rws z 50 5 a1 v1 k ((pairs k).flatMap pcells) ∧ Rws z 50 5 a2 v2 k ((pairs k).flatMap pcells)) ∧ z = _ := ⟨_, ⟨hK, hY, hX, h1, h2⟩, rfl⟩
    subst hwr
    have KR := hid hK'
    have YR := hid hY'
    have XR := hid hX'
    have R1 := hid h1'
    have R2 := hid h2'
    have OO := hid (And.intro o1 (And.intro o2 ne))
    obtain ⟨p1, d1, rfl, hd1⟩ := h1'.shape
    obtain ⟨p2, d2, rfl, hd2⟩ := h2'.shape
    clear hK hY hX h1 h2 hK' hY' hX' h1' h2' o1 o2 ne hd1 hd2
    by_cases hlt : k < 2
    · have ew1 : wrap64 (7 + (k : Int)) = 7 + (k : Int) := by unfold wrap64; omega
      have ew2 : wrap64 (10 + (k : Int)) = 10 + (k : Int) := by unfold wrap64; omega
      have eu : IntKind.u32.wrap (7 + (k : Int)) = 7 + (k : Int) := by rw [IntKind.wrap_u32]; omega
      have et : decide ((k : Int) ≤ 1) = true := by simp; omega
      have k8 : k ≤ 1000000 := by omega
      go_wp2_with fail
      refine (small_call _).mono ?_
      rintro e w1 ⟨rfl, k1⟩
      have K1 := hid (KR.out.trans k1)
      have Y1 := hid (k1.has YR.out (by simp))
      have X1 := hid (k1.has XR.out (by simp))
      have Q1 := hid (R1.out.kept k1 (by simp))
      have Q2 := hid (R2.out.kept k1 (by simp))
      clear k1
      unfold pval small
      go_upto_region 8 with (fail)
      have kk := (Kept.refl [] w1).alloc (.cells #[.int .u32 (7 + (k : Int)), .int .i64 2, .int .i64 1, .int .i64 (10 + (k : Int)), .int .u32 9] 50)
      have M0 := hid (show PrS w (w1.alloc (.cells #[.int .u32 (7 + (k : Int)), .int .i64 2, .int .i64 1, .int .i64 (10 + (k : Int)), .int .u32 9] 50)) Y w1.heap.size k k a1 a2 (.slice p1 k d1) (.slice p2 k d2) ⟨7 + (k : Int), 2, 1, 10 + (k : Int), 9⟩ from
        ⟨K1.out.trans kk, kk.has Y1.out (by simp), kk.has X1.out (by simp), Q1.out.kept kk (by simp), Q2.out.kept kk (by simp), OO.out.1, OO.out.2.1, OO.out.2.2, Has.new w1 50 [.int .u32 (7 + (k : Int)), .int .i64 2, .int .i64 1, .int .i64 (10 + (k : Int)), .int .u32 9], fun g hg e => by have := Q1.out.lt hg; omega, fun g hg e => by have := Q2.out.lt hg; omega, K1.out.size, YY.out⟩)
      clear kk ew1 ew2 eu et K1 Y1 X1 Q1 Q2
      generalize w1.alloc (.cells #[.int .u32 (7 + (k : Int)), .int .i64 2, .int .i64 1, .int .i64 (10 + (k : Int)), .int .u32 9] 50) = w2 at M0 ⊢
      generalize w1.heap.size = D at M0 ⊢
      have kz1 := (Kept.refl [] w2).alloc (.cells #[.int .u32 (7 + (k : Int)), .int .i64 2, .int .i64 1, .int .i64 (10 + (k : Int)), .int .u32 9] 50)
      have RT1 := hid (M0.out.r1.kept kz1 (by simp))
      have T71 := hid (Has.new w2 50 [.int .u32 (7 + (k : Int)), .int .i64 2, .int .i64 1, .int .i64 (10 + (k : Int)), .int .u32 9])
      have XT1 := hid (kz1.has M0.out.x (by simp))
      have g0 := M0.out.d.cell 0 rfl
      have g1 := M0.out.d.cell 1 rfl
      have g2 := M0.out.d.cell 2 rfl
      have g3 := M0.out.d.cell 3 rfl
      have g4 := M0.out.d.cell 4 rfl
      have x0 := M0.out.x.cell 0 rfl
      have x1 := XT1.out.cell 0 rfl
      have lx := M0.out.x.lt
      have nx1 := hid (show Y + 1 ∉ a1.toList from fun hm => by
        simp at hm
        obtain ⟨c, hc⟩ := M0.out.r1.ty hm
        exact Ow.Has.ne M0.out.x hc (by decide) rfl)
      clear kz1
      go_upto_region 9 with (at_builtin; refine wpList_puts _ (by rfl) _ _ 23 50 5 40 _ (by rfl) Tryz.underlying23 infoP (by rfl) (by decide) (by decide) a1 _ k _ _ _ RT1.out T71.out (by rfl) (by intro u hu; simp at hu; rcases hu with rfl | rfl | rfl | rfl | rfl <;> rfl) k8 (by rfl) (by rfl) ?_; intro u1 x1w hp; obtain ⟨pu1, cu1, hu, _⟩ := (show ∃ p c, u1 = .slice p (k + 1) c ∧ True from by obtain ⟨a', _, hr⟩ := hp.rows; obtain ⟨p, c, e, _⟩ := hr.shape; exact ⟨p, c, e, trivial⟩); subst hu; have HP1 := hid hp; have e0 := (hp.kept.has XT1.out nx1.out).cell 0 rfl; have y0 := (hp.kept.has XT1.out nx1.out).free 0; clear hp)
      obtain ⟨b1, N1⟩ := M0.out.put1 rfl HP1.out
      have N1 := hid N1
      clear g0 g1 g2 g3 g4 x0 x1 lx e0 y0
      generalize x1w.setCell ⟨Y + 1, 0, none⟩ (.slice pu1 (k + 1) cu1) = z1 at N1 ⊢
      have kz2 := (Kept.refl [] z1).alloc (.cells #[.int .u32 (7 + (k : Int)), .int .i64 2, .int .i64 1, .int .i64 (10 + (k : Int)), .int .u32 9] 50)
      have RT2 := hid (N1.out.r2.kept kz2 (by simp))
      have T72 := hid (Has.new z1 50 [.int .u32 (7 + (k : Int)), .int .i64 2, .int .i64 1, .int .i64 (10 + (k : Int)), .int .u32 9])
      have XT2 := hid (kz2.has N1.out.x (by simp))
      have g0 := N1.out.d.cell 0 rfl
      have g1 := N1.out.d.cell 1 rfl
      have g2 := N1.out.d.cell 2 rfl
      have g3 := N1.out.d.cell 3 rfl
      have g4 := N1.out.d.cell 4 rfl
      have x0 := N1.out.x.cell 1 rfl
      have x1 := XT2.out.cell 1 rfl
      have lx := N1.out.x.lt
      have nx2 := hid (show Y + 1 ∉ a2.toList from fun hm => by
        simp at hm
        obtain ⟨c, hc⟩ := N1.out.r2.ty hm
        exact Ow.Has.ne N1.out.x hc (by decide) rfl)
      clear kz2
      go_upto_region 4 with (at_builtin; refine wpList_puts _ (by rfl) _ _ 23 50 5 40 _ (by rfl) Tryz.underlying23 infoP (by rfl) (by decide) (by decide) a2 _ k _ _ _ RT2.out T72.out (by rfl) (by intro u hu; simp at hu; rcases hu with rfl | rfl | rfl | rfl | rfl <;> rfl) k8 (by rfl) (by rfl) ?_; intro u2 x2w hp; obtain ⟨pu2, cu2, hu, _⟩ := (show ∃ p c, u2 = .slice p (k + 1) c ∧ True from by obtain ⟨a', _, hr⟩ := hp.rows; obtain ⟨p, c, e, _⟩ := hr.shape; exact ⟨p, c, e, trivial⟩); subst hu; have HP2 := hid hp; have e0 := (hp.kept.has XT2.out nx2.out).cell 1 rfl; have y0 := (hp.kept.has XT2.out nx2.out).free 1; clear hp)
      obtain ⟨b2, N2⟩ := N1.out.put2 rfl HP2.out
      have N2 := hid N2
      clear g0 g1 g2 g3 g4 x0 x1 lx e0 y0
      generalize x2w.setCell ⟨Y + 1, 1, none⟩ (.slice pu2 (k + 1) cu2) = z2 at N2 ⊢
      go_wp2_with fail
      go_roundw
      case rel =>
        have q := N2.out
        exact ⟨k + 1, b1, b2, _, _, by omega, by go_num, q.kw, q.y, q.x, q.r1, q.r2, q.o1, q.o2, q.ne⟩
      case measure => simp [intOf]; omega
    · have e : k = 2 := by omega
      subst e
      have x0 := XR.out.cell 0 rfl
      have x1 := XR.out.cell 1 rfl
      have x2 := XR.out.cell 2 rfl
      have y0 := YR.out.cell 0 rfl
      have y1 := YR.out.cell 1 rfl
      have y2 := YR.out.cell 2 rfl
      have f0 := YR.out.free 0
      have f1 := YR.out.free 1
      have f2 := YR.out.free 2
      go_wp2_with fail
      have Z := ((YR.out.set 0 (.slice p1 2 d1)).set 1 (.slice p2 2 d2)).set 2 (.int .u32 50)
      have kl := (((Kept.refl [Y] wr).set ⟨Y, 0, none⟩ (.slice p1 2 d1) (by simp)).set ⟨Y, 1, none⟩ (.slice p2 2 d2) (by simp)).set ⟨Y, 2, none⟩ (.int .u32 50) (by simp)
      refine bodyPost_ret (results_cell1 rfl Z rfl Tryz.underlying26 rfl infoN3) rfl ?_
      obtain ⟨ga, hga⟩ : ∃ g, a1 = some g := by
        obtain ⟨_, _, ⟨_, e, _⟩ | ⟨g, _, _, e, _⟩⟩ := R1.out
        · omega
        · exact ⟨g, e⟩
      obtain ⟨gb, hgb⟩ : ∃ g, a2 = some g := by
        obtain ⟨_, _, ⟨_, e, _⟩ | ⟨g, _, _, e, _⟩⟩ := R2.out
        · omega
        · exact ⟨g, e⟩
      have nY : ∀ {g v n xs a}, Rws wr 50 5 a v n xs → a = some g → g ∉ [Y] := fun hr hg hm => by
        simp at hm
        obtain ⟨c, hc⟩ := hr.ty hg
        exact Ow.Has.ne hc YR.out (by decide) hm
      have t1 := R1.out.kept kl (fun g hg => nY R1.out hg)
      have t2 := R2.out.kept kl (fun g hg => nY R2.out hg)
      rw [hga] at t1
      rw [hgb] at t2
      exact ⟨_, rfl, ga, gb, _, _, rfl, fun e => OO.out.2.2 ga hga (by rw [hgb, e]), KR.out.fresh kl (by intro i hi hl; simp at hi; have := YY.out; omega), prm_of (ps := pairs 2) t1 (by decide), prm_of (ps := pairs 2) t2 (by decide), OO.out.1 ga hga, OO.out.2.1 gb hgb, t1.ty rfl, t2.ty rfl⟩
structure NtS (W w : World) (Y X g1 g2 c1 c2 : Nat) (ps : List P) : Prop where
  kw : Kept [] W w
  y : Has w Y 26 [.slice none 0 0, .slice none 0 0, .int .u32 0]
  x : Has w X 26 [.slice (some ⟨g1, 0, none⟩) ps.length c1, .slice (some ⟨g2, 0, none⟩) ps.length c2, .int .u32 50]
  ne : g1 ≠ g2
  h1 : Prm w g1 (.slice (some ⟨g1, 0, none⟩) ps.length c1) ps
  h2 : Prm w g2 (.slice (some ⟨g2, 0, none⟩) ps.length c2) ps
  o1 : W.heap.size ≤ g1
  o2 : W.heap.size ≤ g2
  t1 : ∃ cs, Has w g1 50 cs
  t2 : ∃ cs, Has w g2 50 cs
  wy : W.heap.size ≤ Y
theorem Prm.same (h : Prm w g v ps) (i : Nat) (p : P) (hp : ps[i]? = some p) : Prm (w.setCell ⟨g, i * 5 + 4, none⟩ (.int .u32 p.count)) g v ps := by
  obtain ⟨cap, e, hl, hg, hc⟩ := h
  refine ⟨cap, e, hl, by simpa using hg, fun j q hq => ?_⟩
  have c : ∀ z u, w.cell? ⟨g, z, none⟩ = some u → (z = i * 5 + 4 → u = .int .u32 p.count) → (w.setCell ⟨g, i * 5 + 4, none⟩ (.int .u32 p.count)).cell? ⟨g, z, none⟩ = some u := fun z u hz hu => by
    by_cases e : z = i * 5 + 4
    · subst e
      rw [hu rfl] at hz ⊢
      exact World.cell?_setCell_same _ _ _ hz
    · exact (World.cell?_setCell_other _ ⟨g, i * 5 + 4, none⟩ ⟨g, z, none⟩ _ (by first | (simp; done) | (simp; exact fun q => e q.symm))).trans hz
  obtain ⟨a0, a1, a2, a3, a4⟩ := hc j q hq
  refine ⟨c _ _ a0 (by omega), c _ _ a1 (by omega), c _ _ a2 (by omega), c _ _ a3 (by omega), c _ _ a4 (fun e => ?_)⟩
  have : j = i := by omega
  subst this
  rw [hp] at hq; cases hq; rfl
theorem NtS.set1 {W : World} {Y X g1 g2 c1 c2 : Nat} (h : NtS W w Y X g1 g2 c1 c2 ps) (i : Nat) (p : P) (hp : ps[i]? = some p) : NtS W (w.setCell ⟨g1, i * 5 + 4, none⟩ (.int .u32 p.count)) Y X g1 g2 c1 c2 ps := by
  have kl := (Kept.refl [g1] w).set ⟨g1, i * 5 + 4, none⟩ (.int .u32 p.count) (by simp)
  obtain ⟨cs, t1⟩ := id h.t1
  obtain ⟨cs2, t2⟩ := id h.t2
  exact ⟨h.kw.fresh kl (by intro j hj hl; simp at hj; have := h.o1; omega), kl.has h.y (by simp; exact Ow.Has.ne h.y t1 (by decide)), kl.has h.x (by simp; exact Ow.Has.ne h.x t1 (by decide)), h.ne, h.h1.same i p hp, h.h2.kept kl (by simp; exact fun e => h.ne e.symm), h.o1, h.o2, ⟨_, t1.set _ _⟩, ⟨_, kl.has t2 (by simp; exact fun e => h.ne e.symm)⟩, h.wy⟩
theorem NtS.set2 {W : World} {Y X g1 g2 c1 c2 : Nat} (h : NtS W w Y X g1 g2 c1 c2 ps) (i : Nat) (p : P) (hp : ps[i]? = some p) : NtS W (w.setCell ⟨g2, i * 5 + 4, none⟩ (.int .u32 p.count)) Y X g1 g2 c1 c2 ps := by
  have kl := (Kept.refl [g2] w).set ⟨g2, i * 5 + 4, none⟩ (.int .u32 p.count) (by simp)
  obtain ⟨cs, t1⟩ := id h.t1
  obtain ⟨cs2, t2⟩ := id h.t2
  exact ⟨h.kw.fresh kl (by intro j hj hl; simp at hj; have := h.o2; omega), kl.has h.y (by simp; exact Ow.Has.ne h.y t2 (by decide)), kl.has h.x (by simp; exact Ow.Has.ne h.x t2 (by decide)), h.ne, h.h1.kept kl (by simp; exact h.ne), h.h2.same i p hp, h.o1, h.o2, ⟨_, kl.has t1 (by simp; exact h.ne)⟩, ⟨_, t2.set _ _⟩, h.wy⟩
theorem NtS.fin {W : World} {Y X g1 g2 c1 c2 : Nat} (q : NtS W w Y X g1 g2 c1 c2 ps) : NetIs W (((w.setCell ⟨Y, 0, none⟩ (.slice (some ⟨g1, 0, none⟩) ps.length c1)).setCell ⟨Y, 1, none⟩ (.slice (some ⟨g2, 0, none⟩) ps.length c2)).setCell ⟨Y, 2, none⟩ (.int .u32 50)) (.agg #[.slice (some ⟨g1, 0, none⟩) ps.length c1, .slice (some ⟨g2, 0, none⟩) ps.length c2, .int .u32 50]) ps := by
  have kl := (((Kept.refl [Y] w).set ⟨Y, 0, none⟩ (.slice (some ⟨g1, 0, none⟩) ps.length c1) (by simp)).set ⟨Y, 1, none⟩ (.slice (some ⟨g2, 0, none⟩) ps.length c2) (by simp)).set ⟨Y, 2, none⟩ (.int .u32 50) (by simp)
  obtain ⟨s1, t1⟩ := id q.t1
  obtain ⟨s2, t2⟩ := id q.t2
  have n1 : g1 ∉ [Y] := by simp; exact Ow.Has.ne t1 q.y (by decide)
  have n2 : g2 ∉ [Y] := by simp; exact Ow.Has.ne t2 q.y (by decide)
  exact ⟨g1, g2, _, _, rfl, q.ne, q.kw.fresh kl (by intro i hi hl; simp at hi; have := q.wy; omega), q.h1.kept kl n1, q.h2.kept kl n2, q.o1, q.o2, ⟨_, kl.has t1 n1⟩, ⟨_, kl.has t2 n2⟩⟩
def NtRel (W : World) (Y X g1 g2 c1 c2 : Nat) (ps : List P) (i : Value) (w : World) : Prop := ∃ k : Nat, k ≤ ps.length ∧ i = .int .i64 (k : Nat) ∧ NtS W w Y X g1 g2 c1 c2 ps
set_option maxRecDepth 100000 in
set_option maxHeartbeats 3200000 in
theorem net_any (n : Int) (PC : ∀ w, Calls Tryz.prog 25 #[.int .i64 n] w fun e w' => ∃ v, e = .returned v ∧ NetIs w w' v ps) (h9 : ∀ (i : Nat) (p : P), ps[i]? = some p → p.count = 9) (l8 : ps.length ≤ 8) (w : World) : Calls Tryz.prog 10 #[.int .i64 n, .int .u32 9] w fun e w' => ∃ v, e = .returned v ∧ NetIs w w' v ps := by
  have PCC := hid PC
  have H9 := hid h9
  clear h9 PC
  go_enter Tryz.func10, Tryz.ntmps10
  go_upto_region 1 with (fail)
  have YA := hid (Has.new w 26 [.slice none 0 0, .slice none 0 0, .int .u32 0])
  have KA := hid ((Kept.refl [] w).alloc (.cells #[.slice none 0 0, .slice none 0 0, .int .u32 0] 26))
  generalize w.alloc (.cells #[.slice none 0 0, .slice none 0 0, .int .u32 0] 26) = wa at KA YA ⊢
  obtain ⟨Y, hY⟩ : ∃ Y, Y = w.heap.size := ⟨_, rfl⟩
  rw [← hY] at YA ⊢
  have YY := hid (Nat.le_of_eq hY.symm)
  clear hY
  go_wp2_with fail
  refine (PCC.out _).mono ?_
  rintro e w1 ⟨v, rfl, g1, g2, v1, v2, rfl, ne, k1, h1, h2, o1, o2, t1, t2⟩
  obtain ⟨c1, rfl⟩ := h1.shape
  obtain ⟨c2, rfl⟩ := h2.shape
  have D1 := hid (And.intro ne (And.intro k1 (And.intro h1 (And.intro h2 (And.intro o1 (And.intro o2 (And.intro t1 t2)))))))
  clear ne k1 h1 h2 o1 o2 t1 t2
  go_upto_region 2 with (fail)
  have NS := hid (show NtS w (w1.alloc (.cells #[.slice (some ⟨g1, 0, none⟩) ps.length c1, .slice (some ⟨g2, 0, none⟩) ps.length c2, .int .u32 50] 26)) Y w1.heap.size g1 g2 c1 c2 ps from by
    obtain ⟨ne, k1, h1, h2, o1, o2, t1, t2⟩ := D1.out
    have kk := (Kept.refl [] w1).alloc (.cells #[.slice (some ⟨g1, 0, none⟩) ps.length c1, .slice (some ⟨g2, 0, none⟩) ps.length c2, .int .u32 50] 26)
    exact ⟨(KA.out.trans k1).trans kk, kk.has (k1.has YA.out (by simp)) (by simp), Has.new w1 26 [.slice (some ⟨g1, 0, none⟩) ps.length c1, .slice (some ⟨g2, 0, none⟩) ps.length c2, .int .u32 50], ne, h1.kept kk (by simp), h2.kept kk (by simp), Nat.le_trans KA.out.size o1, Nat.le_trans KA.out.size o2, by obtain ⟨cs, h⟩ := t1; exact ⟨cs, kk.has h (by simp)⟩, by obtain ⟨cs, h⟩ := t2; exact ⟨cs, kk.has h (by simp)⟩, YY.out⟩)
  clear D1 YA KA
  generalize w1.alloc (.cells #[.slice (some ⟨g1, 0, none⟩) ps.length c1, .slice (some ⟨g2, 0, none⟩) ps.length c2, .int .u32 50] 26) = w2 at NS ⊢
  generalize w1.heap.size = X at NS ⊢
  have x0 := NS.out.x.cell 0 rfl
  have xl := NS.out.x.lt
  go_wp2_with fail
  clear x0 xl
  go_loopw [12] (NtRel w Y X g1 g2 c1 c2 ps) (fun i _ => ps.length - (intOf i).toNat)
  case atStart => exact ⟨0, Nat.zero_le _, rfl, NS.out⟩
  case round =>
    obtain ⟨k, hk, rfl, hS⟩ := hrel
    have SS := hid hS
    clear hS NS
    by_cases hlt : k < ps.length
    · obtain ⟨p, hp⟩ : ∃ p, ps[k]? = some p := ⟨ps[k]'hlt, List.getElem?_eq_getElem _⟩
      have e9 := H9.out k p hp
      have S1 := hid (SS.out.set1 k p hp)
      have HPK := hid hp
      have r3 : (k : Int) < (ps.length : Int) := by omega
      have r4 : (0 : Int) ≤ (k : Int) := by omega
      have x0 := SS.out.x.cell 0 rfl
      have xl := SS.out.x.lt
      have y1 := SS.out.h1.cells (k * 5 + 4) (.int .u32 p.count) (by rw [flat_at ps k p hp 4 (by omega)]; rfl)
      have l1 := SS.out.h1.lt
      obtain ⟨cs1, t1⟩ := SS.out.t1
      have z1 := t1.free (k * 5 + 4)
      clear t1
      rw [e9] at S1 y1
      have E9 := hid e9
      clear hp e9
      go_upto_region 6 with (fail)
      clear y1 l1 z1 x0 xl
      generalize World.setCell _ ⟨g1, k * 5 + 4, none⟩ (.int .u32 9) = wz at S1 ⊢
      have S2 := hid (S1.out.set2 k p HPK.out)
      have x0 := S1.out.x.cell 1 rfl
      have xl := S1.out.x.lt
      have y1 := S1.out.h2.cells (k * 5 + 4) (.int .u32 p.count) (by rw [flat_at ps k p HPK.out 4 (by omega)]; rfl)
      have l1 := S1.out.h2.lt
      have z1 : wz.frozen? ⟨g2, k * 5 + 4, none⟩ = false := by obtain ⟨cs, t1⟩ := S1.out.t2; exact t1.free _
      rw [E9.out] at S2 y1
      go_wp2_with fail
      go_roundw
      case rel => exact ⟨k + 1, by omega, by go_num, S2.out⟩
      case measure => simp [intOf]; omega
    · have e : k = ps.length := by omega
      subst e
      have x0 := SS.out.x.cell 0 rfl
      have x1 := SS.out.x.cell 1 rfl
      have x2 := SS.out.x.cell 2 rfl
      have y0 := SS.out.y.cell 0 rfl
      have y1 := SS.out.y.cell 1 rfl
      have y2 := SS.out.y.cell 2 rfl
      have f0 := SS.out.y.free 0
      have f1 := SS.out.y.free 1
      have f2 := SS.out.y.free 2
      go_wp2_with fail
      have Z := ((SS.out.y.set 0 (.slice (some ⟨g1, 0, none⟩) ps.length c1)).set 1 (.slice (some ⟨g2, 0, none⟩) ps.length c2)).set 2 (.int .u32 50)
      refine bodyPost_ret (results_cell1 rfl Z rfl Tryz.underlying26 rfl infoN3) rfl ?_
      exact ⟨_, rfl, SS.out.fin⟩
theorem pairs_nine (n i : Nat) (p : P) (h : (pairs n)[i]? = some p) : p.count = 9 := by
  have := (List.getElem?_eq_some_iff.1 h).1
  rw [pairs_len] at this
  rw [pairs_at n i this] at h
  cases h; rfl
theorem net1 (w : World) : Calls Tryz.prog 10 #[.int .i64 1, .int .u32 9] w fun e w' => ∃ v, e = .returned v ∧ NetIs w w' v (pairs 2) := net_any 1 pair1 (pairs_nine 2) (by decide) w
end NetC
namespace TopC
open Go Go.RowKit Gf Hp Sl Ow Rw TM ParW WdC NetC EncW HostC DevC ValveC UEnc
def LW (X : Nat → Prop) (w : World) (b : Nat) (x : Wd) : Prop :=
  ∃ G nh nd mx cv ca cs bb n, Opn G w ∧ (∀ i, X i → i < w.heap.size ∧ ¬ G i) ∧ WF G w b nh nd mx cv ca cs bb n x ∧ (n : Int) ≤ 7 * x.moves ∧ WOk x
variable {X X' : Nat → Prop} {w w' : World} {b : Nat} {x : Wd}
theorem LW.step {S : List Nat} (h : LW X w b x) (k : Kept S w w') (hS : ∀ i, i ∈ S → i < w.heap.size → X i) (hX : ∀ i, X' i → X i ∨ (w.heap.size ≤ i ∧ i < w'.heap.size)) : LW X' w' b x := by
  obtain ⟨G, nh, nd, mx, cv, ca, cs, bb, n, hG, hx, hw, hn, hok⟩ := h
  refine ⟨fenced G w w', nh, nd, mx, cv, ca, cs, bb, n, opn_fenced, fun i q => ?_, ?_, hn, hok⟩
  · rcases hX i q with q | q
    · have := (hx i q).1
      have := k.size
      refine ⟨by omega, ?_⟩
      rintro (r | r)
      · exact (hx i q).2 r.1
      · omega
    · exact ⟨q.2, fenced_not q.1 q.2⟩
  · obtain ⟨lab, fv, fa, xs, hw⟩ := hw
    refine ⟨lab, fv, fa, xs, (hw.mono (fun i hi q => .inl ⟨q, hi⟩)).frame k (fun i hi hl r => ?_)⟩
    rcases r with r | r
    · exact (hx i (hS i hi hl)).2 r.1
    · have := k.size; omega
theorem LW.weak (h : LW X w b x) (hX : ∀ i, X' i → X i) : LW X' w b x := by
  obtain ⟨G, nh, nd, mx, cv, ca, cs, bb, n, hG, hx, r⟩ := h
  exact ⟨G, nh, nd, mx, cv, ca, cs, bb, n, hG, fun i q => hx i (hX i q), r⟩
def Spared (X : Nat → Prop) (w w' : World) : Prop := KG (fun i => ¬ X i) w w'
theorem Spared.has {R : Nat} {T : TypeId} {cs : List Value} (k : Spared X w w') (h : Has w R T cs) (hR : X R) : Has w' R T cs := KG.has k h (fun q => q hR)
theorem new_world (v : Value) (ps : List P) (W : World) (h : NetIs W w v ps) (o : NetC.Good ps) (l1 : 1 ≤ ps.length) (l8 : ps.length ≤ 8) :
    Calls Tryz.prog 11 #[v] w fun e w' => ∃ b, e = .returned (.tuple #[.pointer (some ⟨b, 0, none⟩), .int .i64 0]) ∧ Kept [] w w' ∧ LW (fun i => i < w.heap.size) w' b (net0 ps 50) := by
  obtain ⟨g1, g2, v1, v2, rfl, _, k, h1, h2, _⟩ := h
  refine (NetC.new_call g1 g2 v1 v2 50 h1 h2 o l1 l8 (by decide) (by decide)).mono ?_
  rintro e w' ⟨b, nh, nd, cv, ca, cs, bb, rfl, k2, hw, _⟩
  exact ⟨b, rfl, k2, _, nh, nd, 50, cv, ca, cs, bb, 0, fun i hi => Nat.le_trans k2.size hi, fun i q => ⟨Nat.lt_of_lt_of_le q k2.size, by omega⟩, hw, by show ((0 : Nat) : Int) ≤ 7 * 0; decide, net0_ok ps 50 o l8 (by decide) (by decide)⟩
structure MvOk (mv : Mv) : Prop where
  by_ : By mv.data
  len : mv.data.length ≤ 140737488351232
  word : 0 ≤ mv.word ∧ mv.word < 4294967296
  n : mv.n < 9223372036854775808
theorem LW.play {mv : Mv} {dp : Option Addr} {dc : Nat} (h : LW X w b x) (hm : MvOk mv) (hd : Bytes w (.slice dp mv.data.length dc) mv.data) (hv : ∀ b' off n c, Value.slice dp mv.data.length dc = .slice (some ⟨b', off, none⟩) n c → b' < w.heap.size ∧ X b') :
    Calls Tryz.prog 14 #[.pointer (some ⟨b, 0, none⟩), mvV mv dp mv.data.length dc] w fun e w' => ∃ mp ml mc code sent hh s1 l1 c1 dd s2 l2 c2 mv', e = .returned (.tuple #[rowV mv' mp ml mc code sent hh s1 l1 c1 dd s2 l2 c2, .int .i64 (x.fault mv)]) ∧ Spared X w w' ∧ LW X w' b (x.play mv)
      ∧ (x.fault mv = 0 → (mv' = mv ∧ ml = mv.data.length ∧ code = (x.row mv).code ∧ sent = (x.row mv).sent ∧ hh = (x.row mv).host ∧ dd = (x.row mv).dev ∧ l1 = hh.out.length ∧ l2 = dd.out.length) ∧ Outs w w' (.slice s1 l1 c1) hh.out ∧ Outs w w' (.slice s2 l2 c2) dd.out) := by
  obtain ⟨G, nh, nd, mx, cv, ca, cs, bb, n, hG, hx, hw, hn, hok⟩ := h
  obtain ⟨lab, fv, fa, xs, hw⟩ := hw
  have few := hok.few
  have lim := hok.lim
  by_cases hf : x.fault mv = 0
  · obtain ⟨f1, f2, f3, _⟩ := fault_ok hf
    obtain ⟨p, hp⟩ : ∃ p, cs[mv.conn.toNat]? = some p := ⟨cs[mv.conn.toNat]'(by rw [hw.len]; omega), List.getElem?_eq_getElem _⟩
    have mok := (hw.dev _ p hp).mok
    refine (play_ok hG hw hp hok (by omega) mv dp dc (by omega) hd (fun b' off n c e => ⟨(hv b' off n c e).1, (hx _ (hv b' off n c e).2).2⟩) hm.by_ hm.len hm.word hm.n hf).mono ?_
    rintro e w' ⟨mp, mc, s1, c1, s2, c2, rfl, kg, ⟨m, hm1, wf⟩, o1, o2⟩
    rw [hf]
    refine ⟨mp, _, mc, _, _, _, s1, _, c1, _, s2, _, c2, mv, rfl, kg.shed (fun i _ q r => (hx i r).2 q), ?_, fun _ => ⟨⟨rfl, rfl, rfl, rfl, rfl, rfl, rfl, rfl⟩, o1, o2⟩⟩
    have e : x.play mv = x.next mv := by unfold Wd.play; rw [if_pos hf]
    rw [e]
    exact ⟨G, nh, nd, mx, cv, ca, cs, bb, m, hG.kg kg, fun i q => ⟨Nat.lt_of_lt_of_le (hx i q).1 kg.size, (hx i q).2⟩, wf, by show (m : Int) ≤ 7 * (x.moves + 1); omega, hok.next hf mok hm.by_⟩
  · refine (play_bad hw mv dp mv.data.length dc hm.word (fun u hu => UEnc.Law.short (hok.bag u hu).2) hf).mono ?_
    rintro e w' ⟨rfl, k⟩
    have e : x.play mv = x := by unfold Wd.play; rw [if_neg hf]
    rw [e]
    exact ⟨_, _, _, _, _, _, _, _, _, _, _, _, _, _, rfl, KG.nil k, ⟨G, nh, nd, mx, cv, ca, cs, bb, n, hG.step k.size, fun i q => ⟨Nat.lt_of_lt_of_le (hx i q).1 k.size, (hx i q).2⟩, ⟨lab, fv, fa, xs, hw.nil k⟩, hn, hok⟩, fun q => absurd q hf⟩
end TopC
namespace TopC
open Go Go.RowKit Gf Hp Sl Ow Rw TM ParW WdC NetC EncW HostC DevC ValveC UEnc
variable {X X' : Nat → Prop} {w w' : World} {b : Nat} {x : Wd} {k : Nat}
theorem LW.nil (h : LW X w b x) (q : Kept [] w w') : LW X w' b x := h.step q (by simp) (fun i hi => .inl hi)
theorem LW.seeH (h : LW X w b x) (hk : k < x.cs.length) : Calls Tryz.prog 46 #[.pointer (some ⟨b, 0, none⟩), .int .i64 (k : Int), .int .i64 1] w fun e w' => ∃ s', e = .returned (.tuple #[eval' (x.cn k).h.see s', .int .i64 0]) ∧ Kept [] w w' ∧ Outs w w' s' (x.cn k).h.v.out := by
  obtain ⟨G, nh, nd, mx, cv, ca, cs, bb, n, hG, hx, ⟨lab, fv, fa, xs, hw⟩, hn, hok⟩ := h
  obtain ⟨p, hp⟩ : ∃ p, cs[k]? = some p := ⟨cs[k]'(by rw [hw.len]; exact hk), List.getElem?_eq_getElem _⟩
  have q := (hok.cn k hk).h
  exact seeH_call hw hp (by rw [hw.len]; exact hok.cns) (by rw [q.vn]; exact q.p.inn)
theorem LW.seeD (h : LW X w b x) (hk : k < x.cs.length) : Calls Tryz.prog 46 #[.pointer (some ⟨b, 0, none⟩), .int .i64 (k : Int), .int .i64 2] w fun e w' => ∃ s', e = .returned (.tuple #[eval' (x.cn k).d.see s', .int .i64 0]) ∧ Kept [] w w' ∧ Outs w w' s' (x.cn k).d.v.out := by
  obtain ⟨G, nh, nd, mx, cv, ca, cs, bb, n, hG, hx, ⟨lab, fv, fa, xs, hw⟩, hn, hok⟩ := h
  obtain ⟨p, hp⟩ : ∃ p, cs[k]? = some p := ⟨cs[k]'(by rw [hw.len]; exact hk), List.getElem?_eq_getElem _⟩
  have q := (hok.cn k hk).d
  exact seeD_call hw hp (by rw [hw.len]; exact hok.cns) (by rw [q.vn]; exact q.p.out)
theorem LW.frames (h : LW X w b x) : Calls Tryz.prog 17 #[.pointer (some ⟨b, 0, none⟩)] w fun e w' => e = .returned (.int .i64 (x.bag.length : Nat)) ∧ w' = w := by
  obtain ⟨G, nh, nd, mx, cv, ca, cs, bb, n, hG, hx, ⟨lab, fv, fa, xs, hw⟩, hn, hok⟩ := h
  exact frames_call hw
theorem results_cells2 {P : Program} {fn : Func} {c u : Tmp} {T : TypeId} {T2 : TypeId} (h : fn.results = #[.cell c T, .cell u T]) {tmps : Array Value} {w : World} {b b2 : Nat} {cs cs2 : List Value} {d : TypeDesc} (h0 : Has w b T2 cs) (h1 : Has w b2 T2 cs2) (hp : tmps.getD c undef = .pointer (some ⟨b, 0, none⟩)) (hp2 : tmps.getD u undef = .pointer (some ⟨b2, 0, none⟩))
    (hu : P.underlying T = some d) (hd : d.isRow = true) (hi : (P.info? T).map (·.size) = some cs.length) (hi2 : (P.info? T).map (·.size) = some cs2.length) : (results fn tmps).run P w = .ok (.tuple #[.agg cs.toArray, .agg cs2.toArray]) w := by
  have e1 := run_loadVar_mid (P := P) w b 0 T cs d (fun j v hv => by rw [Nat.zero_add]; exact h0.cell j hv) hu hd hi
  have e2 := run_loadVar_mid (P := P) w b2 0 T cs2 d (fun j v hv => by rw [Nat.zero_add]; exact h1.cell j hv) hu hd hi2
  simp only [Array.getD_eq_getD_getElem?] at hp hp2
  simp [results, h, hp, hp2, asAddr, e1, e2]
theorem Own.ne1 {w : World} {k b : Nat} {s : Value} {l : List Int} {cs : List Value} (h : Own w k s l) (h' : Has w b 42 cs) : k ≠ b := by
  obtain ⟨_, _, _, h, _⟩ := h; exact Ow.Has.ne h h' (by decide)
theorem infoE9 : (Tryz.prog.info? 42).map (·.size) = some 9 := by kernel_rfl
set_option maxRecDepth 100000 in
set_option maxHeartbeats 3200000 in
theorem LW.ends (h : LW X w b x) (hk : k < x.cs.length) : Calls Tryz.prog 15 #[.pointer (some ⟨b, 0, none⟩), .int .i64 (k : Int)] w fun e w' => ∃ k1 c1 k2 c2, e = .returned (.tuple #[eval' (x.cn k).h.see (.slice (some ⟨k1, 0, none⟩) (x.cn k).h.v.out.length c1), eval' (x.cn k).d.see (.slice (some ⟨k2, 0, none⟩) (x.cn k).d.v.out.length c2)]) ∧ Kept [] w w' ∧ w.heap.size ≤ k1 ∧ w.heap.size ≤ k2 ∧ Own w' k1 (.slice (some ⟨k1, 0, none⟩) (x.cn k).h.v.out.length c1) (x.cn k).h.v.out ∧ Own w' k2 (.slice (some ⟨k2, 0, none⟩) (x.cn k).d.v.out.length c2) (x.cn k).d.v.out := by
  have SH := hid (fun (w' : World) (q : Kept [] w w') => (h.nil q).seeH hk)
  have SD := hid (fun (w' : World) (q : Kept [] w w') => (h.nil q).seeD hk)
  clear h
  go_enter Tryz.func15, Tryz.ntmps15
  go_upto_region 1 with (fail)
  have KA := hid (((Kept.refl [] w).alloc (.cells #[.int .i64 0, .int .u32 0, .int .u32 0, .int .u32 0, .int .i64 0, .int .i64 0, .bool false, .bool false, .slice none 0 0] 42)).alloc (.cells #[.int .i64 0, .int .u32 0, .int .u32 0, .int .u32 0, .int .i64 0, .int .i64 0, .bool false, .bool false, .slice none 0 0] 42))
  have Y1 := hid ((Has.new w 42 [.int .i64 0, .int .u32 0, .int .u32 0, .int .u32 0, .int .i64 0, .int .i64 0, .bool false, .bool false, .slice none 0 0]).alloc (.cells #[.int .i64 0, .int .u32 0, .int .u32 0, .int .u32 0, .int .i64 0, .int .i64 0, .bool false, .bool false, .slice none 0 0] 42))
  have Y2 := hid (Has.new (w.alloc (.cells #[.int .i64 0, .int .u32 0, .int .u32 0, .int .u32 0, .int .i64 0, .int .i64 0, .bool false, .bool false, .slice none 0 0] 42)) 42 [.int .i64 0, .int .u32 0, .int .u32 0, .int .u32 0, .int .i64 0, .int .i64 0, .bool false, .bool false, .slice none 0 0])
  rw [show (w.alloc (.cells #[.int .i64 0, .int .u32 0, .int .u32 0, .int .u32 0, .int .i64 0, .int .i64 0, .bool false, .bool false, .slice none 0 0] 42)).heap.size = w.heap.size + 1 by simp] at Y2
  generalize (w.alloc (.cells #[.int .i64 0, .int .u32 0, .int .u32 0, .int .u32 0, .int .i64 0, .int .i64 0, .bool false, .bool false, .slice none 0 0] 42)).alloc (.cells #[.int .i64 0, .int .u32 0, .int .u32 0, .int .u32 0, .int .i64 0, .int .i64 0, .bool false, .bool false, .slice none 0 0] 42) = wa at KA Y1 Y2 ⊢
  obtain ⟨Y, hY⟩ : ∃ Y, Y = w.heap.size := ⟨_, rfl⟩
  rw [← hY] at Y1 Y2 ⊢
  have YY := hid (Nat.le_of_eq hY.symm)
  clear hY
  go_wp2_with fail
  refine (SH.out _ KA.out).mono ?_
  rintro e w1 ⟨s1, rfl, q1, k1, hk1, o1⟩
  obtain ⟨c1, cu1, rfl, _⟩ := id o1
  have K1 := hid (KA.out.trans q1)
  have Z1 := hid (q1.has Y1.out (by simp))
  have Z2 := hid (q1.has Y2.out (by simp))
  have OW1 := hid (And.intro (Nat.le_trans KA.out.size hk1) o1)
  clear q1 hk1 o1 Y1 Y2
  unfold eval'
  go_upto_region 2 with (fail)
  have q2 := (Kept.refl [] w1).alloc (.cells #[.int .i64 (x.cn k).h.see.state, .int .u32 (x.cn k).h.see.ses, .int .u32 (x.cn k).h.see.num, .int .u32 (x.cn k).h.see.sent, .int .i64 (x.cn k).h.see.since, .int .i64 (x.cn k).h.see.latched, .bool (x.cn k).h.see.request, .bool (x.cn k).h.see.on, .slice (some ⟨k1, 0, none⟩) (x.cn k).h.v.out.length c1] 42)
  have K2 := hid (K1.out.trans q2)
  have A1 := hid (Has.new w1 42 [.int .i64 (x.cn k).h.see.state, .int .u32 (x.cn k).h.see.ses, .int .u32 (x.cn k).h.see.num, .int .u32 (x.cn k).h.see.sent, .int .i64 (x.cn k).h.see.since, .int .i64 (x.cn k).h.see.latched, .bool (x.cn k).h.see.request, .bool (x.cn k).h.see.on, .slice (some ⟨k1, 0, none⟩) (x.cn k).h.v.out.length c1])
  have Z1b := hid (q2.has Z1.out (by simp))
  have Z2b := hid (q2.has Z2.out (by simp))
  have OW1b := hid (And.intro OW1.out.1 (OW1.out.2.kept q2 (by simp)))
  have NT := hid (show Y + 1 < w1.heap.size ∧ w1.heap.size ≤ (w1.alloc _).heap.size from ⟨Z2.out.lt, q2.size⟩)
  clear q2 K1 Z1 Z2 OW1
  generalize w1.alloc (.cells #[.int .i64 (x.cn k).h.see.state, .int .u32 (x.cn k).h.see.ses, .int .u32 (x.cn k).h.see.num, .int .u32 (x.cn k).h.see.sent, .int .i64 (x.cn k).h.see.since, .int .i64 (x.cn k).h.see.latched, .bool (x.cn k).h.see.request, .bool (x.cn k).h.see.on, .slice (some ⟨k1, 0, none⟩) (x.cn k).h.v.out.length c1] 42) = w2 at K2 A1 Z1b Z2b OW1b NT ⊢
  generalize w1.heap.size = T1 at A1 NT ⊢
  go_wp2_with fail
  refine (SD.out _ K2.out).mono ?_
  rintro e w3 ⟨s2, rfl, q3, k2, hk2, o2⟩
  obtain ⟨c2, cu2, rfl, _⟩ := id o2
  unfold eval'
  go_upto_region 3 with (fail)
  have q4 := q3.alloc (.cells #[.int .i64 (x.cn k).d.see.state, .int .u32 (x.cn k).d.see.ses, .int .u32 (x.cn k).d.see.num, .int .u32 (x.cn k).d.see.sent, .int .i64 (x.cn k).d.see.since, .int .i64 (x.cn k).d.see.latched, .bool (x.cn k).d.see.request, .bool (x.cn k).d.see.on, .slice (some ⟨k2, 0, none⟩) (x.cn k).d.v.out.length c2] 42)
  have K4 := hid (K2.out.trans q4)
  have B1 := hid (q4.has A1.out (by simp))
  have B2 := hid (Has.new w3 42 [.int .i64 (x.cn k).d.see.state, .int .u32 (x.cn k).d.see.ses, .int .u32 (x.cn k).d.see.num, .int .u32 (x.cn k).d.see.sent, .int .i64 (x.cn k).d.see.since, .int .i64 (x.cn k).d.see.latched, .bool (x.cn k).d.see.request, .bool (x.cn k).d.see.on, .slice (some ⟨k2, 0, none⟩) (x.cn k).d.v.out.length c2])
  have Z1c := hid (q4.has Z1b.out (by simp))
  have Z2c := hid (q4.has Z2b.out (by simp))
  have OW1c := hid (And.intro OW1b.out.1 (OW1b.out.2.kept q4 (by simp)))
  have OW2c := hid (And.intro (Nat.le_trans K2.out.size hk2) (o2.kept ((Kept.refl [] w3).alloc (.cells #[.int .i64 (x.cn k).d.see.state, .int .u32 (x.cn k).d.see.ses, .int .u32 (x.cn k).d.see.num, .int .u32 (x.cn k).d.see.sent, .int .i64 (x.cn k).d.see.since, .int .i64 (x.cn k).d.see.latched, .bool (x.cn k).d.see.request, .bool (x.cn k).d.see.on, .slice (some ⟨k2, 0, none⟩) (x.cn k).d.v.out.length c2] 42)) (by simp)))
  have NE := hid (show T1 ≠ Y ∧ T1 ≠ Y + 1 ∧ w3.heap.size ≠ Y ∧ w3.heap.size ≠ Y + 1 from ⟨by have := NT.out; omega, by have := NT.out; omega, by have := NT.out; have := q3.size; omega, by have := NT.out; have := q3.size; omega⟩)
  clear q3 q4 o2 hk2 K2 A1 Z1b Z2b OW1b
  generalize w3.alloc (.cells #[.int .i64 (x.cn k).d.see.state, .int .u32 (x.cn k).d.see.ses, .int .u32 (x.cn k).d.see.num, .int .u32 (x.cn k).d.see.sent, .int .i64 (x.cn k).d.see.since, .int .i64 (x.cn k).d.see.latched, .bool (x.cn k).d.see.request, .bool (x.cn k).d.see.on, .slice (some ⟨k2, 0, none⟩) (x.cn k).d.v.out.length c2] 42) = w4 at K4 B1 B2 Z1c Z2c OW1c OW2c ⊢
  generalize w3.heap.size = T2 at B2 NE ⊢
  have SK := hid (show ∀ (L : List Nat) (w' : World), Kept L w4 w' → T1 ∉ L → T2 ∉ L → (w'.cell? ⟨T1, 0, none⟩ = some (.int .i64 (x.cn k).h.see.state) ∧ w'.cell? ⟨T1, 1, none⟩ = some (.int .u32 (x.cn k).h.see.ses) ∧ w'.cell? ⟨T1, 2, none⟩ = some (.int .u32 (x.cn k).h.see.num) ∧ w'.cell? ⟨T1, 3, none⟩ = some (.int .u32 (x.cn k).h.see.sent) ∧ w'.cell? ⟨T1, 4, none⟩ = some (.int .i64 (x.cn k).h.see.since) ∧ w'.cell? ⟨T1, 5, none⟩ = some (.int .i64 (x.cn k).h.see.latched) ∧ w'.cell? ⟨T1, 6, none⟩ = some (.bool (x.cn k).h.see.request) ∧ w'.cell? ⟨T1, 7, none⟩ = some (.bool (x.cn k).h.see.on) ∧ w'.cell? ⟨T1, 8, none⟩ = some (.slice (some ⟨k1, 0, none⟩) (x.cn k).h.v.out.length c1) ∧ w'.cell? ⟨T2, 0, none⟩ = some (.int .i64 (x.cn k).d.see.state) ∧ w'.cell? ⟨T2, 1, none⟩ = some (.int .u32 (x.cn k).d.see.ses) ∧ w'.cell? ⟨T2, 2, none⟩ = some (.int .u32 (x.cn k).d.see.num) ∧ w'.cell? ⟨T2, 3, none⟩ = some (.int .u32 (x.cn k).d.see.sent) ∧ w'.cell? ⟨T2, 4, none⟩ = some (.int .i64 (x.cn k).d.see.since) ∧ w'.cell? ⟨T2, 5, none⟩ = some (.int .i64 (x.cn k).d.see.latched) ∧ w'.cell? ⟨T2, 6, none⟩ = some (.bool (x.cn k).d.see.request) ∧ w'.cell? ⟨T2, 7, none⟩ = some (.bool (x.cn k).d.see.on) ∧ w'.cell? ⟨T2, 8, none⟩ = some (.slice (some ⟨k2, 0, none⟩) (x.cn k).d.v.out.length c2)) from fun L w' q n1 n2 => by
    obtain ⟨a0, a1, a2, a3, a4, a5, a6, a7, a8⟩ := nine9 (q.has B1.out n1)
    obtain ⟨b0, b1, b2, b3, b4, b5, b6, b7, b8⟩ := nine9 (q.has B2.out n2)
    exact ⟨a0, a1, a2, a3, a4, a5, a6, a7, a8, b0, b1, b2, b3, b4, b5, b6, b7, b8⟩)
  have dd := SK.out [] _ ((Kept.refl [] w4).drew) (by simp) (by simp)
  obtain ⟨y0, f0, y1, f1, y2, f2, y3, f3, y4, f4, y5, f5, y6, f6, y7, f7, y8, f8⟩ := nine Z1c.out
  obtain ⟨u0, g0, u1, g1, u2, g2, u3, g3, u4, g4, u5, g5, u6, g6, u7, g7, u8, g8⟩ := nine Z2c.out
  have m1 : T1 ≠ Y := NE.out.1
  have m2 : T1 ≠ Y + 1 := NE.out.2.1
  have m3 : T2 ≠ Y := NE.out.2.2.1
  have m4 : T2 ≠ Y + 1 := NE.out.2.2.2
  have m5 : Y ≠ T1 := Ne.symm m1
  have m6 : Y + 1 ≠ T1 := Ne.symm m2
  have m7 : Y ≠ T2 := Ne.symm m3
  have m8 : Y + 1 ≠ T2 := Ne.symm m4
  have q5 := kept9 w4 Y (.int .i64 (x.cn k).h.see.state) (.int .u32 (x.cn k).h.see.ses) (.int .u32 (x.cn k).h.see.num) (.int .u32 (x.cn k).h.see.sent) (.int .i64 (x.cn k).h.see.since) (.int .i64 (x.cn k).h.see.latched) (.bool (x.cn k).h.see.request) (.bool (x.cn k).h.see.on) (.slice (some ⟨k1, 0, none⟩) (x.cn k).h.v.out.length c1)
  have d1 := SK.out [Y] _ q5.drew (by simpa using m1) (by simpa using m3)
  have q6 := (q5.mono (S' := [Y, Y + 1]) (by simp)).trans ((kept9 _ (Y + 1) (.int .i64 (x.cn k).d.see.state) (.int .u32 (x.cn k).d.see.ses) (.int .u32 (x.cn k).d.see.num) (.int .u32 (x.cn k).d.see.sent) (.int .i64 (x.cn k).d.see.since) (.int .i64 (x.cn k).d.see.latched) (.bool (x.cn k).d.see.request) (.bool (x.cn k).d.see.on) (.slice (some ⟨k2, 0, none⟩) (x.cn k).d.v.out.length c2)).mono (S' := [Y, Y + 1]) (by simp))
  have d2 := SK.out [Y, Y + 1] _ q6.drew (by simp [m1, m2]) (by simp [m3, m4])
  have E1 := hid (((kept9 _ (Y + 1) (.int .i64 (x.cn k).d.see.state) (.int .u32 (x.cn k).d.see.ses) (.int .u32 (x.cn k).d.see.num) (.int .u32 (x.cn k).d.see.sent) (.int .i64 (x.cn k).d.see.since) (.int .i64 (x.cn k).d.see.latched) (.bool (x.cn k).d.see.request) (.bool (x.cn k).d.see.on) (.slice (some ⟨k2, 0, none⟩) (x.cn k).d.v.out.length c2)).has (set9 (u0 := .int .i64 (x.cn k).h.see.state) (u1 := .int .u32 (x.cn k).h.see.ses) (u2 := .int .u32 (x.cn k).h.see.num) (u3 := .int .u32 (x.cn k).h.see.sent) (u4 := .int .i64 (x.cn k).h.see.since) (u5 := .int .i64 (x.cn k).h.see.latched) (u6 := .bool (x.cn k).h.see.request) (u7 := .bool (x.cn k).h.see.on) (u8 := .slice (some ⟨k1, 0, none⟩) (x.cn k).h.v.out.length c1) Z1c.out) (by simp)).drew)
  have E2 := hid ((set9 (u0 := .int .i64 (x.cn k).d.see.state) (u1 := .int .u32 (x.cn k).d.see.ses) (u2 := .int .u32 (x.cn k).d.see.num) (u3 := .int .u32 (x.cn k).d.see.sent) (u4 := .int .i64 (x.cn k).d.see.since) (u5 := .int .i64 (x.cn k).d.see.latched) (u6 := .bool (x.cn k).d.see.request) (u7 := .bool (x.cn k).d.see.on) (u8 := .slice (some ⟨k2, 0, none⟩) (x.cn k).d.v.out.length c2) (q5.has Z2c.out (by simp))).drew)
  have Q6 := hid q6.drew
  clear q5 q6
  go_region_held3 (fun w' => w'.cell? ⟨T1, 0, none⟩ = some (.int .i64 (x.cn k).h.see.state) ∧ w'.cell? ⟨T1, 1, none⟩ = some (.int .u32 (x.cn k).h.see.ses) ∧ w'.cell? ⟨T1, 2, none⟩ = some (.int .u32 (x.cn k).h.see.num) ∧ w'.cell? ⟨T1, 3, none⟩ = some (.int .u32 (x.cn k).h.see.sent) ∧ w'.cell? ⟨T1, 4, none⟩ = some (.int .i64 (x.cn k).h.see.since) ∧ w'.cell? ⟨T1, 5, none⟩ = some (.int .i64 (x.cn k).h.see.latched) ∧ w'.cell? ⟨T1, 6, none⟩ = some (.bool (x.cn k).h.see.request) ∧ w'.cell? ⟨T1, 7, none⟩ = some (.bool (x.cn k).h.see.on) ∧ w'.cell? ⟨T1, 8, none⟩ = some (.slice (some ⟨k1, 0, none⟩) (x.cn k).h.v.out.length c1) ∧ w'.cell? ⟨T2, 0, none⟩ = some (.int .i64 (x.cn k).d.see.state) ∧ w'.cell? ⟨T2, 1, none⟩ = some (.int .u32 (x.cn k).d.see.ses) ∧ w'.cell? ⟨T2, 2, none⟩ = some (.int .u32 (x.cn k).d.see.num) ∧ w'.cell? ⟨T2, 3, none⟩ = some (.int .u32 (x.cn k).d.see.sent) ∧ w'.cell? ⟨T2, 4, none⟩ = some (.int .i64 (x.cn k).d.see.since) ∧ w'.cell? ⟨T2, 5, none⟩ = some (.int .i64 (x.cn k).d.see.latched) ∧ w'.cell? ⟨T2, 6, none⟩ = some (.bool (x.cn k).d.see.request) ∧ w'.cell? ⟨T2, 7, none⟩ = some (.bool (x.cn k).d.see.on) ∧ w'.cell? ⟨T2, 8, none⟩ = some (.slice (some ⟨k2, 0, none⟩) (x.cn k).d.v.out.length c2)) (first | with_reducible assumption | go_keep) (fail)
  clear dd d1 d2 y0 f0 y1 f1 y2 f2 y3 f3 y4 f4 y5 f5 y6 f6 y7 f7 y8 f8 u0 g0 u1 g1 u2 g2 u3 g3 u4 g4 u5 g5 u6 g6 u7 g7 u8 g8 m1 m2 m3 m4 m5 m6 m7 m8
  have n1 := Own.ne1 OW1c.out.2 Z1c.out
  have n2 := Own.ne1 OW1c.out.2 Z2c.out
  have n3 := Own.ne1 OW2c.out.2 Z1c.out
  have n4 := Own.ne1 OW2c.out.2 Z2c.out
  have P1 := hid (And.intro OW1c.out.1 (OW1c.out.2.kept Q6.out (by simp [n1, n2])))
  have P2 := hid (And.intro OW2c.out.1 (OW2c.out.2.kept Q6.out (by simp [n3, n4])))
  have KF := hid (K4.out.fresh Q6.out (by intro i hi hl; simp at hi; have := YY.out; omega))
  clear Q6 n1 n2 n3 n4
  go_wp2_with fail
  refine bodyPost_ret (results_cells2 rfl E1.out E2.out rfl rfl Tryz.underlying42 rfl infoE9 infoE9) rfl ?_
  exact ⟨k1, c1, k2, c2, rfl, KF.out, P1.out.1, P2.out.1, P1.out.2, P2.out.2⟩
end TopC
namespace TopC
open Go Go.RowKit Gf Hp Sl Ow Rw TM ParW WdC NetC EncW HostC DevC ValveC UEnc
variable {X X' : Nat → Prop} {w w' : World} {b : Nat} {x : Wd} {k : Nat} {mv : Mv}
theorem infoM9 : (Tryz.prog.info? 38).map (·.size) = some 9 := by kernel_rfl
set_option maxRecDepth 100000 in
set_option maxHeartbeats 1600000 in
theorem copied_call (dp : Option Addr) (dc : Nat) (hd : Bytes w (.slice dp mv.data.length dc) mv.data) (hl : mv.data.length ≤ 140737488351232) :
    Calls Tryz.prog 13 #[mvV mv dp mv.data.length dc] w fun e w' => ∃ ep ec, e = .returned (mvV mv ep mv.data.length ec) ∧ Kept [] w w' ∧ Made w w' (.slice ep mv.data.length ec) mv.data := by
  have HD := hid (And.intro hd hl)
  clear hd hl
  unfold mvV
  go_enter Tryz.func13, Tryz.ntmps13
  go_upto_region 1 with (fail)
  have KA := hid (((Kept.refl [] w).alloc (.cells #[.int .i64 mv.kind, .int .i64 mv.conn, .int .i64 mv.side, .int .i64 mv.frame, .int .i64 mv.at', .int .u32 mv.word, .int .i64 mv.n, .bool mv.hold, .slice dp mv.data.length dc] 38)).alloc (.cells #[.int .i64 0, .int .i64 0, .int .i64 0, .int .i64 0, .int .i64 0, .int .u32 0, .int .i64 0, .bool false, .slice none 0 0] 38))
  have R0 := hid ((Has.new w 38 [.int .i64 mv.kind, .int .i64 mv.conn, .int .i64 mv.side, .int .i64 mv.frame, .int .i64 mv.at', .int .u32 mv.word, .int .i64 mv.n, .bool mv.hold, .slice dp mv.data.length dc]).alloc (.cells #[.int .i64 0, .int .i64 0, .int .i64 0, .int .i64 0, .int .i64 0, .int .u32 0, .int .i64 0, .bool false, .slice none 0 0] 38))
  have Y0 := hid (Has.new (w.alloc (.cells #[.int .i64 mv.kind, .int .i64 mv.conn, .int .i64 mv.side, .int .i64 mv.frame, .int .i64 mv.at', .int .u32 mv.word, .int .i64 mv.n, .bool mv.hold, .slice dp mv.data.length dc] 38)) 38 [.int .i64 0, .int .i64 0, .int .i64 0, .int .i64 0, .int .i64 0, .int .u32 0, .int .i64 0, .bool false, .slice none 0 0])
  rw [show (w.alloc (.cells #[.int .i64 mv.kind, .int .i64 mv.conn, .int .i64 mv.side, .int .i64 mv.frame, .int .i64 mv.at', .int .u32 mv.word, .int .i64 mv.n, .bool mv.hold, .slice dp mv.data.length dc] 38)).heap.size = w.heap.size + 1 by simp] at Y0
  generalize (w.alloc (.cells #[.int .i64 mv.kind, .int .i64 mv.conn, .int .i64 mv.side, .int .i64 mv.frame, .int .i64 mv.at', .int .u32 mv.word, .int .i64 mv.n, .bool mv.hold, .slice dp mv.data.length dc] 38)).alloc (.cells #[.int .i64 0, .int .i64 0, .int .i64 0, .int .i64 0, .int .i64 0, .int .u32 0, .int .i64 0, .bool false, .slice none 0 0] 38) = wa at KA R0 Y0 ⊢
  obtain ⟨R, hR⟩ : ∃ R, R = w.heap.size := ⟨_, rfl⟩
  rw [← hR] at R0 Y0 ⊢
  have RR := hid (Nat.le_of_eq hR.symm)
  clear hR
  have BD := hid (HD.out.1.kept KA.out (by simp))
  have m8 := R0.out.cell 8 rfl
  have m8' := (R0.out.alloc (.cells #[] 5)).cell 8 rfl
  go_upto_region 2 with (at_builtin; refine wpList_app rfl _ _ rfl wa (.slice dp mv.data.length dc) mv.data _ rfl rfl rfl BD.out HD.out.2 ?_; ((intro y w3 k3 hy; obtain ⟨gy, hgy, hoy⟩ := hy; obtain ⟨ey, cu, rfl, _⟩ := id hoy; have HG := hid hgy; have HO := hid hoy; have K3 := hid k3; have n8 := (k3.has R0.out (by simp)).cell 8 rfl; have f8 := (k3.has R0.out (by simp)).free 8; clear k3 hgy hoy)))
  have R3 := hid (show Has _ R 38 [.int .i64 mv.kind, .int .i64 mv.conn, .int .i64 mv.side, .int .i64 mv.frame, .int .i64 mv.at', .int .u32 mv.word, .int .i64 mv.n, .bool mv.hold, .slice (some ⟨gy, 0, none⟩) mv.data.length ey] from (K3.out.has R0.out (by simp)).set 8 (.slice (some ⟨gy, 0, none⟩) mv.data.length ey))
  have kl := (Kept.refl [R] w3).set ⟨R, 8, none⟩ (.slice (some ⟨gy, 0, none⟩) mv.data.length ey) (by simp)
  have Y3 := hid (kl.has (K3.out.has Y0.out (by simp)) (by simp))
  have K4 := hid ((KA.out.trans K3.out).fresh kl (by intro i hi hl; simp at hi; have := RR.out; omega))
  have O4 := hid (HO.out.kept kl (by simp; have := R0.out.lt; have := HG.out; omega))
  clear kl n8 f8 m8 m8'
  generalize w3.setCell ⟨R, 8, none⟩ (.slice (some ⟨gy, 0, none⟩) mv.data.length ey) = w4 at R3 Y3 K4 O4 ⊢
  iterate 1 (first | go_values | go_skip | go_guarded | go_step | go_upon | go_back | (simp only [Int.not_lt, Int.not_le] at *; go_simp) | (go_values <;> (try go_simp)))
  refine wpList_get R3.out 38 (.tmp 1) rfl rfl rfl Tryz.underlying38 rfl infoM9 ?_
  refine wpList_put (o := 0) Y3.out [.int .i64 mv.kind, .int .i64 mv.conn, .int .i64 mv.side, .int .i64 mv.frame, .int .i64 mv.at', .int .u32 mv.word, .int .i64 mv.n, .bool mv.hold, .slice (some ⟨gy, 0, none⟩) mv.data.length ey] 38 (.tmp 2) (.tmp 8) rfl rfl rfl rfl (Nat.le_refl 9) infoM9 rfl ?_
  obtain ⟨E1, q5⟩ := puts_all [.int .i64 mv.kind, .int .i64 mv.conn, .int .i64 mv.side, .int .i64 mv.frame, .int .i64 mv.at', .int .u32 mv.word, .int .i64 mv.n, .bool mv.hold, .slice (some ⟨gy, 0, none⟩) mv.data.length ey] Y3.out rfl
  have E1 := hid E1
  have K5 := hid (K4.out.fresh q5 (by intro i hi hl; simp at hi; have := RR.out; omega))
  have O5 := hid (O4.out.kept q5 (by simp; have := Y0.out.lt; have := HG.out; omega))
  clear q5
  generalize w4.setCells (R + 1) 0 [.int .i64 mv.kind, .int .i64 mv.conn, .int .i64 mv.side, .int .i64 mv.frame, .int .i64 mv.at', .int .u32 mv.word, .int .i64 mv.n, .bool mv.hold, .slice (some ⟨gy, 0, none⟩) mv.data.length ey] = w5 at E1 K5 O5 ⊢
  go_wp2_with fail
  refine bodyPost_ret (results_cell1 rfl E1.out rfl Tryz.underlying38 rfl infoM9) rfl ?_
  exact ⟨some ⟨gy, 0, none⟩, ey, rfl, K5.out, .inr ⟨gy, O5.out⟩, fun q hq => by cases hq; exact Nat.le_trans KA.out.size HG.out⟩
end TopC
namespace TopC
open Go Go.RowKit Gf Hp Sl Ow Rw TM ParW WdC NetC EncW HostC DevC ValveC UEnc
theorem five {w : World} {R : Nat} {T : TypeId} {v0 v1 v2 v3 v4 : Value} (h : Has w R T [v0, v1, v2, v3, v4]) : w.cell? ⟨R, 0, none⟩ = some v0 ∧ w.cell? ⟨R, 1, none⟩ = some v1 ∧ w.cell? ⟨R, 2, none⟩ = some v2 ∧ w.cell? ⟨R, 3, none⟩ = some v3 ∧ w.cell? ⟨R, 4, none⟩ = some v4 := ⟨h.cell 0 rfl, h.cell 1 rfl, h.cell 2 rfl, h.cell 3 rfl, h.cell 4 rfl⟩
theorem prm_one {w : World} {g : Nat} (h : Has w g 50 [.int .u32 7, .int .i64 2, .int .i64 1, .int .i64 10, .int .u32 9]) : Prm w g (.slice (some ⟨g, 0, none⟩) 1 1) [small] := by
  refine ⟨1, rfl, Nat.le_refl _, h.lt, fun i p hp => ?_⟩
  have e : i = 0 := by have := (List.getElem?_eq_some_iff.1 hp).1; simp at this; omega
  subst e
  simp at hp; subst hp
  exact five h
set_option maxRecDepth 100000 in
set_option maxHeartbeats 1600000 in
theorem lone_call (w : World) : Calls Tryz.prog 32 #[] w fun e w' => ∃ v, e = .returned v ∧ NetIs w w' v [small] := by
  go_enter Tryz.func32, Tryz.ntmps32
  have YA := hid (Has.new w 26 [.slice none 0 0, .slice none 0 0, .int .u32 0])
  have KA := hid ((Kept.refl [] w).alloc (.cells #[.slice none 0 0, .slice none 0 0, .int .u32 0] 26))
  go_upto_region 1 with (fail)
  generalize w.alloc (.cells #[.slice none 0 0, .slice none 0 0, .int .u32 0] 26) = wa at KA YA ⊢
  obtain ⟨Y, hY⟩ : ∃ Y, Y = w.heap.size := ⟨_, rfl⟩
  rw [← hY] at YA ⊢
  have YY := hid (Nat.le_of_eq hY.symm)
  clear hY
  go_wp2_with fail
  refine (small_call _).mono ?_
  rintro e w1 ⟨rfl, k1⟩
  unfold pval small
  go_upto_region 2 with (fail)
  have q2 := k1.alloc (.cells #[.int .u32 7, .int .i64 2, .int .i64 1, .int .i64 10, .int .u32 9] 50)
  have T2 := hid (Has.new w1 50 [.int .u32 7, .int .i64 2, .int .i64 1, .int .i64 10, .int .u32 9])
  have Y2 := hid (q2.has YA.out (by simp))
  have K2 := hid (KA.out.trans q2)
  clear q2 k1
  generalize w1.alloc (.cells #[.int .u32 7, .int .i64 2, .int .i64 1, .int .i64 10, .int .u32 9] 50) = w2 at T2 Y2 K2 ⊢
  generalize w1.heap.size = T at T2 ⊢
  have a1 := (Kept.refl [] w2).alloc (.cells #[.int .u32 7, .int .i64 2, .int .i64 1, .int .i64 10, .int .u32 9] 50)
  have a2 := a1.alloc (.cells #[.int .u32 7, .int .i64 2, .int .i64 1, .int .i64 10, .int .u32 9] 50)
  have L1 := hid ((Has.new w2 50 [.int .u32 7, .int .i64 2, .int .i64 1, .int .i64 10, .int .u32 9]).alloc (.cells #[.int .u32 7, .int .i64 2, .int .i64 1, .int .i64 10, .int .u32 9] 50))
  have L2 := hid (Has.new (w2.alloc (.cells #[.int .u32 7, .int .i64 2, .int .i64 1, .int .i64 10, .int .u32 9] 50)) 50 [.int .u32 7, .int .i64 2, .int .i64 1, .int .i64 10, .int .u32 9])
  rw [show (w2.alloc (.cells #[.int .u32 7, .int .i64 2, .int .i64 1, .int .i64 10, .int .u32 9] 50)).heap.size = w2.heap.size + 1 by simp] at L2
  have Y4 := hid (a2.has Y2.out (by simp))
  have K4 := hid (K2.out.trans a2)
  have N4 := hid K2.out.size
  obtain ⟨t0, t1, t2, t3, t4⟩ := five T2.out
  have lt := T2.out.lt
  have ly := Y2.out.lt
  have y0 := Y2.out.cell 0 rfl
  have y1 := Y2.out.cell 1 rfl
  have y2 := Y2.out.cell 2 rfl
  have f0 := Y2.out.free 0
  have f1 := Y2.out.free 1
  have f2 := Y2.out.free 2
  have ne1 : Y ≠ w2.heap.size := by omega
  have ne2 : Y ≠ w2.heap.size + 1 := by omega
  clear a1 a2
  go_wp2_with fail
  have kl := (((Kept.refl [Y] w2).set ⟨Y, 0, none⟩ (.slice (some ⟨w2.heap.size, 0, none⟩) 1 1) (by simp)).set ⟨Y, 1, none⟩ (.slice (some ⟨w2.heap.size + 1, 0, none⟩) 1 1) (by simp)).set ⟨Y, 2, none⟩ (.int .u32 50) (by simp)
  have Z := ((((Y2.out.set 0 (.slice (some ⟨w2.heap.size, 0, none⟩) 1 1)).set 1 (.slice (some ⟨w2.heap.size + 1, 0, none⟩) 1 1)).set 2 (.int .u32 50)).alloc (.cells #[.int .u32 7, .int .i64 2, .int .i64 1, .int .i64 10, .int .u32 9] 50)).alloc (.cells #[.int .u32 7, .int .i64 2, .int .i64 1, .int .i64 10, .int .u32 9] 50)
  have es : (((w2.setCell ⟨Y, 0, none⟩ (.slice (some ⟨w2.heap.size, 0, none⟩) 1 1)).setCell ⟨Y, 1, none⟩ (.slice (some ⟨w2.heap.size + 1, 0, none⟩) 1 1)).setCell ⟨Y, 2, none⟩ (.int .u32 50)).heap.size = w2.heap.size := by simp
  have P1 := (Has.new (((w2.setCell ⟨Y, 0, none⟩ (.slice (some ⟨w2.heap.size, 0, none⟩) 1 1)).setCell ⟨Y, 1, none⟩ (.slice (some ⟨w2.heap.size + 1, 0, none⟩) 1 1)).setCell ⟨Y, 2, none⟩ (.int .u32 50)) 50 [.int .u32 7, .int .i64 2, .int .i64 1, .int .i64 10, .int .u32 9]).alloc (.cells #[.int .u32 7, .int .i64 2, .int .i64 1, .int .i64 10, .int .u32 9] 50)
  have P2 := Has.new ((((w2.setCell ⟨Y, 0, none⟩ (.slice (some ⟨w2.heap.size, 0, none⟩) 1 1)).setCell ⟨Y, 1, none⟩ (.slice (some ⟨w2.heap.size + 1, 0, none⟩) 1 1)).setCell ⟨Y, 2, none⟩ (.int .u32 50)).alloc (.cells #[.int .u32 7, .int .i64 2, .int .i64 1, .int .i64 10, .int .u32 9] 50)) 50 [.int .u32 7, .int .i64 2, .int .i64 1, .int .i64 10, .int .u32 9]
  rw [es] at P1
  rw [show ((((w2.setCell ⟨Y, 0, none⟩ (.slice (some ⟨w2.heap.size, 0, none⟩) 1 1)).setCell ⟨Y, 1, none⟩ (.slice (some ⟨w2.heap.size + 1, 0, none⟩) 1 1)).setCell ⟨Y, 2, none⟩ (.int .u32 50)).alloc (.cells #[.int .u32 7, .int .i64 2, .int .i64 1, .int .i64 10, .int .u32 9] 50)).heap.size = w2.heap.size + 1 by simp] at P2
  refine bodyPost_ret (results_cell1 rfl Z rfl Tryz.underlying26 rfl infoN3) rfl ?_
  exact ⟨_, rfl, w2.heap.size, w2.heap.size + 1, _, _, rfl, by omega, ((K2.out.fresh kl (by intro i hi hl; simp at hi; have := YY.out; omega)).alloc _).alloc _, prm_one P1, prm_one P2, N4.out, Nat.le_succ_of_le N4.out, ⟨_, P1⟩, ⟨_, P2⟩⟩
end TopC
end Go.Proofs.YtinaliblnihpbaaGreat
