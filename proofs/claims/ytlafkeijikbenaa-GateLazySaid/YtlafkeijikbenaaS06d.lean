/- The law GateLazy: the walk. -/
import Derived.Test.YtlafkeijikbenaaLazyS
import Derived.Test.YtlafkeijikbenaaS06b
import Derived.Deep.RegionWith
namespace Go.Proofs.Ytlafkeijikbenaa.Law06
open Go Go.RowKit Go.Proofs.Ytlafkeijikbenaa.Hp Go.Proofs.Ytlafkeijikbenaa.Atom Go.Proofs.Ytlafkeijikbenaa.AtomC Go.Proofs.Ytlafkeijikbenaa.OnceC Go.Proofs.Ytlafkeijikbenaa.GateC
set_option linter.unusedVariables false
set_option linter.unusedSimpArgs false
def f1 (c pv : Nat) : Value := .func (.func 39) #[] #[.pointer (some ⟨c, 0, none⟩), .pointer (some ⟨pv, 0, none⟩)]
def f2 (pt : Nat) : Value := .func (.func 41) #[] #[.pointer (some ⟨pt, 0, none⟩)]
/-- The blocks of the law's own: the numbers' place, v's, the text's; the two Lazies. -/
structure LZ (w : World) (pv pt c l s : Nat) (v : Int) (text : ByteArray) (d : Bool) (n : Int) (k : Int) : Prop where
  hv : Has w pv 3 [.int .i64 v]
  ht : Has w pt 9 [.string text]
  hc : Has w c 3 [.int .i64 k]
  hl : IsL w l d d (f1 c pv) (.int .i64 n)
  hs : IsS w s false false (f2 pt) (.string ⟨#[]⟩)
theorem LZ.kept {w w' : World} {pv pt c l s : Nat} {v : Int} {text : ByteArray} {d : Bool} {n k : Int} (h : LZ w pv pt c l s v text d n k) (kk : Kept [] w w') : LZ w' pv pt c l s v text d n k :=
  ⟨kk.has h.hv (by simp), kk.has h.ht (by simp), kk.has h.hc (by simp), kk.has h.hl (by simp), kk.has h.hs (by simp)⟩
def LzRel (W : World) (pv pt c l s : Nat) (v : Int) (text : ByteArray) (i : Value) (w : World) : Prop :=
  ∃ (k : Nat), k ≤ 50 ∧ i = .int .i64 k ∧ (if k = 0 then LZ w pv pt c l s v text false 0 0 else LZ w pv pt c l s v text true v 1) ∧ Kept [] W w
set_option maxRecDepth 100000 in
set_option maxHeartbeats 1600000 in
theorem GateLazy_walk (v : Int) (text : ByteArray) (n : Int) (W : World) (wv : (Lit.int .i64 v).wf = true) (wn : (Lit.int .i64 n).wf = true) :
    Calls Try.prog 10 #[.int .i64 v, .string text, .int .i64 n] W fun e w' => e = .returned (.bool true) ∧ Below W.heap.size W w' := by
  have hn := OnceC.hnot
  have hmf : ∀ (fn : Fn) (first cap : Array Value) (w : World), (Instr.makeFunc fn first cap).run Try.prog w = .ok (.func fn first cap) w := fun _ _ _ _ => rfl
  have h0v := Has.new W 3 [.int .i64 v]
  have h0t := Has.new (W.alloc (.cells #[.int .i64 v] 3)) 9 [.string text]
  rw [World.size_alloc] at h0t
  have h0v' := h0v.alloc (.cells #[.string text] 9)
  have k0' : Kept [] W ((W.alloc (.cells #[.int .i64 v] 3)).alloc (.cells #[.string text] 9)) := ((Kept.refl _ _).alloc _).alloc _
  clear h0v
  go_enter Try.func10, Try.ntmps10
  go_wp2_with fail
  generalize (W.alloc (.cells #[.int .i64 v] 3)).alloc (.cells #[.string text] 9) = wa at *
  refine (Law06.awake_call _).mono ?_
  rintro e w0 ⟨rfl, k0⟩
  have hv1 := k0.has h0v' (by simp)
  have ht1 := k0.has h0t (by simp)
  have K1 := k0'.trans k0
  clear h0v' h0t k0 k0' 
  go_wp2_with fail
  have hc1 := Has.new w0 3 [.int .i64 0]
  have hv2 := hv1.alloc (.cells #[.int .i64 0] 3)
  have ht2 := ht1.alloc (.cells #[.int .i64 0] 3)
  have K2 := K1.alloc (.cells #[.int .i64 0] 3)
  have s1 := K1.size
  have lt1 := ht1.lt
  refine (mk_call _ _ _).mono ?_
  rintro e w1 ⟨rfl, k1, h1⟩
  have hc3 := k1.has hc1 (by simp)
  have hv3 := k1.has hv2 (by simp)
  have ht3 := k1.has ht2 (by simp)
  have K3 := K2.trans k1
  go_wp2_with fail
  refine (mks_call _ _ _).mono ?_
  rintro e w2 ⟨rfl, k2, h2⟩
  have hc4 := k2.has hc3 (by simp)
  have hv4 := k2.has hv3 (by simp)
  have ht4 := k2.has ht3 (by simp)
  have h14 := k2.has h1 (by simp)
  have K4 := K3.trans k2
  have hle : W.heap.size + 1 < w0.heap.size := by omega
  have hs11 := k1.size
  rw [World.size_alloc] at hs11
  clear hc1 hv2 ht2 K2 k1 hc3 hv3 ht3 h1 k2 K3 hv1 ht1 K1 s1 lt1
  rw [World.size_alloc] at h14
  have M1 : Calls Try.prog 42 _ w2 _ := made_call _ false false _ _ w2 h14
  have M2 : Calls Try.prog 43 _ w2 _ := mades_call _ false false _ _ w2 h2
  replace M1 := Lib.hid M1
  replace M2 := Lib.hid M2
  go_wp2_with fail
  refine M1.out.mono ?_
  rintro e w' ⟨rfl, rfl⟩
  go_wp2_with fail
  refine M2.out.mono ?_
  rintro e w' ⟨rfl, rfl⟩
  have c0 := hc4.cell 0 (v := .int .i64 0) rfl
  have K5 := Lib.hid K4
  have LL : LZ w2 W.heap.size (W.heap.size + 1) w0.heap.size (w0.heap.size + 1) w1.heap.size v text false 0 0 := ⟨hv4, ht4, hc4, h14, h2⟩
  clear M1 M2 K4 hv4 ht4 h14 h2 hc4
  go_wp2_with fail
  clear c0
  have hll : W.heap.size ≤ w0.heap.size + 1 := by omega
  have hss : W.heap.size ≤ w1.heap.size := by omega
  generalize w0.heap.size + 1 = l at *
  generalize w0.heap.size = c at *
  generalize w1.heap.size = s at *
  go_loopw [10] (LzRel W W.heap.size (W.heap.size + 1) c l s v text) (fun i _ => 51 - (intOf i).toNat)
  case atStart => exact ⟨0, by omega, rfl, by rw [if_pos rfl]; exact LL, K5.out⟩
  case round =>
    clear LL K5
    obtain ⟨k, hk, rfl, hL, hK⟩ := hrel
    rename_i wr
    have hm : n.tmod 50 < 50 := Int.tmod_lt_of_pos n (by decide)
    by_cases hk0 : k = 0
    · subst hk0
      rw [if_pos rfl] at hL
      by_cases ht : (0 : Int) < n.tmod 50
      · have hd1 : decide ((0 : Int) < n.tmod 50) = true := by simpa using ht
        have L0 := hL
        have q0 := L0.hv.cell 0 (v := .int .i64 v) rfl
        have hne1 : c ≠ W.heap.size := by omega
        have hlc : l ≠ c := Has.ne L0.hl L0.hc (by decide)
        have hlv : l ≠ W.heap.size := Has.ne L0.hl L0.hv (by decide)
        have hls : l ≠ s := Has.ne L0.hl L0.hs (by decide)
        have hsc : s ≠ c := Has.ne L0.hs L0.hc (by decide)
        have hsv : s ≠ W.heap.size := Has.ne L0.hs L0.hv (by decide)
        have htl : W.heap.size + 1 ≠ l := Has.ne L0.ht L0.hl (by decide)
        have htc : W.heap.size + 1 ≠ c := Has.ne L0.ht L0.hc (by decide)
        have LD := L0.kept ((Kept.refl [] wr).drew)
        have Gf : Calls Try.prog 44 _ wr.drew _ := get_first l 39 _ v [c, W.heap.size] (LPre c W.heap.size v 0) (LPre c W.heap.size v 1) (lazy1 c W.heap.size v hne1 wv) wr.drew LD.hl (by simp; exact ⟨hlc, hlv⟩) (by intro i hi; simp at hi; rcases hi with rfl | rfl; exact LD.hc.lt; exact LD.hv.lt) ⟨LD.hc, LD.hv⟩
        have G' := Lib.hid Gf
        have L' := Lib.hid LD
        clear Gf LD
        go_wp2_with fail
        go_region_with
          (first
            | (go_at_call 44; refine G'.out.mono ?_; rintro e w5 ⟨rfl, k5, hl5, hc5, hv5⟩; have q5 := Has.cell hv5 0 (v := .int .i64 v) rfl; have r5 := Has.cell hc5 0 (v := .int .i64 1) rfl; have s5 := k5.has L'.out.hs (by simp; exact ⟨fun e => hls e.symm, hsc, hsv⟩))
            | (go_at_call 42; refine (made_call _ true true _ _ _ hl5).mono ?_; rintro e w' ⟨rfl, rfl⟩)
            | (go_at_call 43; refine (mades_call _ false false _ _ _ s5).mono ?_; rintro e w' ⟨rfl, rfl⟩))
        · have LL5 : LZ w5 W.heap.size (W.heap.size + 1) c l s v text true v 1 := ⟨hv5, k5.has L'.out.ht (by simp; exact ⟨htl, htc⟩), hc5, hl5, s5⟩
          have K5 := Lib.hid ((hK.drew).fresh k5 (S' := []) (by intro i hi hl; simp at hi; omega))
          clear q5 r5 q0 G' L' hl5 hc5 hv5 s5 hL L0
          go_wp2_with fail
          go_roundw
          case rel => exact ⟨1, by omega, rfl, by rw [if_neg (by omega)]; exact LL5, K5.out⟩
          case measure => simp [intOf]
        · have LL5 : LZ w5 W.heap.size (W.heap.size + 1) c l s v text true v 1 := ⟨hv5, k5.has L'.out.ht (by simp; exact ⟨htl, htc⟩), hc5, hl5, s5⟩
          have K5 := Lib.hid ((hK.drew).fresh k5 (S' := []) (by intro i hi hl; simp at hi; omega))
          clear q5 r5 q0 G' L' hl5 hc5 hv5 s5 hL L0
          go_wp2_with fail
          go_roundw
          case rel => exact ⟨1, by omega, rfl, by rw [if_neg (by omega)]; exact LL5, K5.out⟩
          case measure => simp [intOf]
      · have hd1 : decide ((0 : Int) < n.tmod 50) = false := by simpa using ht
        have L0 := hL
        have q0 := L0.hv.cell 0 (v := .int .i64 v) rfl
        have hne1 : c ≠ W.heap.size := by omega
        have hlc : l ≠ c := Has.ne L0.hl L0.hc (by decide)
        have hlv : l ≠ W.heap.size := Has.ne L0.hl L0.hv (by decide)
        have hls : l ≠ s := Has.ne L0.hl L0.hs (by decide)
        have hsc : s ≠ c := Has.ne L0.hs L0.hc (by decide)
        have hsv : s ≠ W.heap.size := Has.ne L0.hs L0.hv (by decide)
        have htl : W.heap.size + 1 ≠ l := Has.ne L0.ht L0.hl (by decide)
        have htc : W.heap.size + 1 ≠ c := Has.ne L0.ht L0.hc (by decide)
        have LD := L0.kept ((Kept.refl [] wr).drew)
        have Gf : Calls Try.prog 44 _ wr.drew _ := get_first l 39 _ v [c, W.heap.size] (LPre c W.heap.size v 0) (LPre c W.heap.size v 1) (lazy1 c W.heap.size v hne1 wv) wr.drew LD.hl (by simp; exact ⟨hlc, hlv⟩) (by intro i hi; simp at hi; rcases hi with rfl | rfl; exact LD.hc.lt; exact LD.hv.lt) ⟨LD.hc, LD.hv⟩
        have G' := Lib.hid Gf
        have L' := Lib.hid LD
        clear Gf LD
        go_wp2_with fail
        go_region_with
          (first
            | (go_at_call 44; refine G'.out.mono ?_; rintro e w5 ⟨rfl, k5, hl5, hc5, hv5⟩; have q5 := Has.cell hv5 0 (v := .int .i64 v) rfl; have r5 := Has.cell hc5 0 (v := .int .i64 1) rfl; have s5 := k5.has L'.out.hs (by simp; exact ⟨fun e => hls e.symm, hsc, hsv⟩))
            | (go_at_call 42; refine (made_call _ true true _ _ _ hl5).mono ?_; rintro e w' ⟨rfl, rfl⟩)
            | (go_at_call 43; refine (mades_call _ false false _ _ _ s5).mono ?_; rintro e w' ⟨rfl, rfl⟩))
        · have LL5 : LZ w5 W.heap.size (W.heap.size + 1) c l s v text true v 1 := ⟨hv5, k5.has L'.out.ht (by simp; exact ⟨htl, htc⟩), hc5, hl5, s5⟩
          have K5 := Lib.hid ((hK.drew).fresh k5 (S' := []) (by intro i hi hl; simp at hi; omega))
          clear q5 r5 q0 G' L' hl5 hc5 hv5 s5 hL L0
          go_wp2_with fail
          go_roundw
          case rel => exact ⟨1, by omega, rfl, by rw [if_neg (by omega)]; exact LL5, K5.out⟩
          case measure => simp [intOf]
        · have LL5 : LZ w5 W.heap.size (W.heap.size + 1) c l s v text true v 1 := ⟨hv5, k5.has L'.out.ht (by simp; exact ⟨htl, htc⟩), hc5, hl5, s5⟩
          have K5 := Lib.hid ((hK.drew).fresh k5 (S' := []) (by intro i hi hl; simp at hi; omega))
          clear q5 r5 q0 G' L' hl5 hc5 hv5 s5 hL L0
          go_wp2_with fail
          go_roundw
          case rel => exact ⟨1, by omega, rfl, by rw [if_neg (by omega)]; exact LL5, K5.out⟩
          case measure => simp [intOf]
    · rw [if_neg hk0] at hL
      have hd2 : ((k : Int) == 0) = false := by rw [beq_eq_false_iff_ne]; omega
      by_cases ht : (k : Int) < n.tmod 50
      · have hd1 : decide ((k : Int) < n.tmod 50) = true := by simpa using ht
        have LD := hL.kept ((Kept.refl [] wr).drew)
        have q0 := hL.hv.cell 0 (v := .int .i64 v) rfl
        have Gf : Calls Try.prog 44 _ wr.drew _ := get_again l true 39 _ v wr.drew LD.hl
        have G' := Lib.hid Gf
        have L' := Lib.hid LD
        clear Gf LD
        go_wp2_with fail
        go_region_with
          (first
            | (go_at_call 44; refine G'.out.mono ?_; rintro e w5 ⟨rfl, k5⟩; have L5 := L'.out.kept k5; have q5 := Has.cell L5.hv 0 (v := .int .i64 v) rfl; have r5 := Has.cell L5.hc 0 (v := .int .i64 1) rfl)
            | (go_at_call 42; refine (made_call _ true true _ _ _ L5.hl).mono ?_; rintro e w' ⟨rfl, rfl⟩)
            | (go_at_call 43; refine (mades_call _ false false _ _ _ L5.hs).mono ?_; rintro e w' ⟨rfl, rfl⟩))
        · have K5 := Lib.hid ((hK.drew).trans k5)
          clear q5 r5 q0 G' L' hL
          go_wp2_with fail
          go_roundw
          case rel => exact ⟨k + 1, by omega, by go_num, by rw [if_neg (by omega)]; exact L5, K5.out⟩
          case measure => simp [intOf]; omega
        · have K5 := Lib.hid ((hK.drew).trans k5)
          clear q5 r5 q0 G' L' hL
          go_wp2_with fail
          go_roundw
          case rel => exact ⟨k + 1, by omega, by go_num, by rw [if_neg (by omega)]; exact L5, K5.out⟩
          case measure => simp [intOf]; omega
      · have hd1 : decide ((k : Int) < n.tmod 50) = false := by simpa using ht
        have LD := hL.kept ((Kept.refl [] wr).drew)
        have L' := Lib.hid LD
        have t0 := hL.ht.cell 0 (v := .string text) rfl
        have hS : s ∉ [W.heap.size + 1] := by simp; exact Has.ne hL.hs hL.ht (by decide)
        have hts : W.heap.size + 1 ≠ s := Has.ne hL.ht hL.hs (by decide)
        have G1 : Calls Try.prog 45 _ wr.drew _ := gets_first s 41 _ text [W.heap.size + 1] (SPre (W.heap.size + 1) text) (SPre (W.heap.size + 1) text) (lazy2 (W.heap.size + 1) text) wr.drew LD.hs hS (by intro i hi; simp at hi; subst hi; exact LD.ht.lt) LD.ht
        have G' := Lib.hid G1
        have G2 := Lib.hid (fun w h => gets_again s true 41 #[.pointer (some ⟨W.heap.size + 1, 0, none⟩)] text w h)
        have Kd := Lib.hid hK.drew
        clear G1 hL hS LD hK
        go_wp2_with fail
        go_region_held3 (fun w' => w'.cell? ⟨W.heap.size + 1, 0, none⟩ = some (.string text)) (first | assumption | go_keep)
          (first
            | (go_at_call 45; (with_reducible refine G'.out.mono ?_); rintro e w5 ⟨rfl, k5, h5, q5⟩; have t5 := Has.cell q5 0 (v := .string text) rfl; clear G' t0)
            | (go_at_call 45; refine (G2.out _ h5).mono ?_; rintro e w6 ⟨rfl, k6⟩; have t6 := Has.cell (k6.has q5 (by simp)) 0 (v := .string text) rfl; have h6 := k6.has h5 (by simp))
            | (go_at_call 43; refine (mades_call _ true true _ _ _ h6).mono ?_; rintro e w' ⟨rfl, rfl⟩))
        have K6 := Lib.hid ((Kd.out.fresh k5 (S' := []) (by intro i hi hl; simp at hi; omega)).trans k6)
        clear t5 t6 h5 h6 q5
        go_wp2_with fail
        go_ret
        exact ⟨rfl, K6.out.toBelow (by simp)⟩
end Go.Proofs.Ytlafkeijikbenaa.Law06
