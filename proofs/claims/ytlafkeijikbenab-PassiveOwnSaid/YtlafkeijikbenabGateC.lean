/- Contracts of gate's calls, in the run of one goroutine. -/
import Derived.Test.YtlafkeijikbenabOnceD
import Derived.Deep.Cut
namespace Go.Proofs.Ytlafkeijikbenab.GateC
open Go Go.RowKit Go.Proofs.Ytlafkeijikbenab.Hp Go.Proofs.Ytlafkeijikbenab.Atom Go.Proofs.Ytlafkeijikbenab.AtomC Go.Proofs.Ytlafkeijikbenab.OnceC
set_option linter.unusedVariables false
set_option linter.unusedSimpArgs false
theorem Has.ne {w : World} {b b' : Nat} {T T' : TypeId} {cs cs' : List Value} (h : Has w b T cs) (h' : Has w b' T' cs') (hne : T ≠ T') : b ≠ b' := by
  rintro rfl
  unfold Has at h h'
  rw [h] at h'
  simp at h'
  exact hne h'.2
/-- What a gate holds. -/
structure G where
  code : Int
  fallen : Bool
  times : Int
def G.new : G := ⟨0, false, 0⟩
def IsG (w : World) (g o : Nat) (x : G) : Prop :=
  Has w g 116 [.pointer (some ⟨o, 0, none⟩), .int .i64 x.code, .int .i64 x.times] ∧ Has w o 111 [.int .u32 (b32 x.fallen), .int .i32 0, .int .u32 0]
theorem IsG.kept {w w' : World} {g o : Nat} {x : G} {S : List Nat} (h : IsG w g o x) (k : Kept S w w') (hg : g ∉ S) (ho : o ∉ S) : IsG w' g o x := ⟨k.has h.1 hg, k.has h.2 ho⟩
theorem IsG.ne {w : World} {g o : Nat} {x : G} (h : IsG w g o x) : g ≠ o := Has.ne h.1 h.2 (by decide)

theorem new_call (w : World) : Calls Try.prog 43 #[] w fun e w' => e = .returned (.pointer (some ⟨w.heap.size + 1, 0, none⟩)) ∧ Kept [] w w' ∧ IsG w' (w.heap.size + 1) w.heap.size G.new ∧ w.heap.size + 2 ≤ w'.heap.size := by
  go_enter Try.func43, Try.ntmps43
  go_wp2
  go_ret
  refine ⟨rfl, ((Kept.refl _ _).alloc _).alloc _, ⟨?_, (Has.new w _ _).alloc _⟩, by simp⟩
  have := Has.new (w.alloc (.cells #[.int .u32 0, .int .i32 0, .int .u32 0] 111)) 116 [.pointer (some ⟨w.heap.size, 0, none⟩), .int .i64 0, .int .i64 0]
  rw [World.size_alloc] at this
  exact this
theorem code_call (g o : Nat) (x : G) (w : World) (h : IsG w g o x) : Calls Try.prog 44 #[.pointer (some ⟨g, 0, none⟩)] w fun e w' => e = .returned (.int .i64 x.code) ∧ w = w' := by
  have c1 := h.1.cell 1 (v := .int .i64 x.code) rfl
  go_enter Try.func44, Try.ntmps44
  go_wp2
  go_ret
  exact ⟨rfl, rfl⟩
theorem code_nil (w : World) : Calls Try.prog 44 #[.pointer none] w fun e w' => e = .returned (.int .i64 0) ∧ w = w' := by
  go_enter Try.func44, Try.ntmps44
  go_wp2
  go_ret
  exact ⟨rfl, rfl⟩
theorem lift_call (g o : Nat) (x : G) (w : World) (h : IsG w g o x) :
    Calls Try.prog 56 #[.pointer (some ⟨g, 0, none⟩)] w fun e w' => e = .returned (.int .i64 x.code) ∧ Kept [g] w w' ∧ IsG w' g w.heap.size G.new := by
  have c0 := h.1.cell 0 (v := .pointer (some ⟨o, 0, none⟩)) rfl
  have c1 := h.1.cell 1 (v := .int .i64 x.code) rfl
  have z0 := h.1.free 0
  have z1 := h.1.free 1
  have hl := h.1.lt
  have hG := ((h.1.set 0 (.pointer (some ⟨w.heap.size, 0, none⟩))).set 1 (.int .i64 0)).alloc (.cells #[.int .u32 0, .int .i32 0, .int .u32 0] 111)
  have hO := Has.new ((w.setCell ⟨g, 0, none⟩ (.pointer (some ⟨w.heap.size, 0, none⟩))).setCell ⟨g, 1, none⟩ (.int .i64 0)) 111 [.int .u32 0, .int .i32 0, .int .u32 0]
  rw [World.size_setCell, World.size_setCell] at hO
  have hk := ((((Kept.refl [g] w).set ⟨g, 0, none⟩ (.pointer (some ⟨w.heap.size, 0, none⟩)) (by simp)).set ⟨g, 1, none⟩ (.int .i64 0) (by simp)).alloc (.cells #[.int .u32 0, .int .i32 0, .int .u32 0] 111))
  have hne : g ≠ w.heap.size := Nat.ne_of_lt hl
  have hG' := Lib.hid hG
  have hO' := Lib.hid hO
  have hk' := Lib.hid hk
  clear hG hO hk h
  go_enter Try.func56, Try.ntmps56
  go_wp2_with fail
  refine (i64_store _ (.int .i64 x.times) _ _ (hG'.out.cell 2 rfl) (hG'.out.free 2)).mono ?_
  rintro e w' ⟨rfl, rfl⟩
  have hk2 := hk'.out.set ⟨g, 2, none⟩ (.int .i64 0) (by simp)
  have hg2 : IsG _ g w.heap.size G.new := ⟨hG'.out.set 2 (.int .i64 0), hO'.out.set_ne ⟨g, 2, none⟩ (.int .i64 0) (fun e => hne e.symm)⟩
  have hk3 := Lib.hid hk2
  have hg3 := Lib.hid hg2
  clear hk2 hg2 hG' hO' hk'
  generalize World.setCell _ _ _ = w9 at *
  go_wp2_with fail
  go_ret
  exact ⟨rfl, hk3.out, hg3.out⟩
theorem lift_nil (w : World) : Calls Try.prog 56 #[.pointer none] w fun e w' => e = .returned (.int .i64 0) ∧ w = w' := by
  go_enter Try.func56, Try.ntmps56
  go_wp2
  go_ret
  exact ⟨rfl, rfl⟩
theorem trip_nil (c : Int) (w : World) : Calls Try.prog 55 #[.pointer none, .int .i64 c] w fun e w' => e = .returned (.bool false) ∧ Kept [] w w' := by
  go_enter Try.func55, Try.ntmps55
  go_wp2
  go_ret
  exact ⟨rfl, ((Kept.refl _ _).alloc _).alloc _⟩
theorem trip_ok (g : Nat) (w : World) : Calls Try.prog 55 #[.pointer (some ⟨g, 0, none⟩), .int .i64 0] w fun e w' => e = .returned (.bool false) ∧ Kept [] w w' := by
  go_enter Try.func55, Try.ntmps55
  go_wp2
  go_ret
  exact ⟨rfl, ((Kept.refl _ _).alloc _).alloc _⟩
/-- Trip's own function. -/
theorem trip1_call (g pc pg pf : Nat) (c : Int) (u v : Value) (w : World) (hc : Has w pc 25 [.int .i64 c]) (hg : Has w pg 80 [.pointer (some ⟨g, 0, none⟩)]) (hf : Has w pf 4 [u]) {y z : Value} (hG : Has w g 116 [y, v, z]) :
    Calls Try.prog 69 #[.pointer (some ⟨pc, 0, none⟩), .pointer (some ⟨pg, 0, none⟩), .pointer (some ⟨pf, 0, none⟩)] w fun e w' => e = .returned (.tuple #[]) ∧ w' = (w.setCell ⟨g, 1, none⟩ (.int .i64 c)).setCell ⟨pf, 0, none⟩ (.bool true) := by
  have c0 := hc.cell 0 (v := .int .i64 c) rfl
  have g0 := hg.cell 0 (v := .pointer (some ⟨g, 0, none⟩)) rfl
  have f0 := hf.cell 0 (v := u) rfl
  have G1 := hG.cell 1 (v := v) rfl
  have zf := hf.free 0
  have zG := hG.free 1
  have hne : g ≠ pf := Has.ne hG hf (by decide)
  have hpf : (w.setCell ⟨g, 1, none⟩ (.int .i64 c)).cell? ⟨pf, 0, none⟩ = some u := ((hf.set_ne ⟨g, 1, none⟩ _ (fun e => hne e.symm)).cell 0 rfl)
  go_enter Try.func69, Try.ntmps69
  go_wp2_with fail
  go_end0
  exact ⟨rfl, rfl⟩
/-- What a trip leaves. -/
def G.trip (x : G) (c : Int) : G := if x.fallen then { x with times := wrap64 (x.times + 1) } else ⟨c, true, wrap64 (x.times + 1)⟩
set_option maxRecDepth 100000 in
set_option maxHeartbeats 1600000 in
theorem trip_call (g o : Nat) (x : G) (c : Int) (w : World) (h : IsG w g o x) (hc : c ≠ 0) :
    Calls Try.prog 55 #[.pointer (some ⟨g, 0, none⟩), .int .i64 c] w fun e w' => e = .returned (.bool (!x.fallen)) ∧ Kept [g, o] w w' ∧ IsG w' g o (x.trip c) := by
  have hc0 : (c == 0) = false := by simpa using hc
  have hgl := h.1.lt
  have hol := h.2.lt
  have hp := Has.new w 80 [.pointer (some ⟨g, 0, none⟩)]
  have hcc := Has.new (w.alloc (.cells #[.pointer (some ⟨g, 0, none⟩)] 80)) 25 [.int .i64 c]
  rw [World.size_alloc] at hcc
  have hk : Kept [g, o] w ((w.alloc (.cells #[.pointer (some ⟨g, 0, none⟩)] 80)).alloc (.cells #[.int .i64 c] 25)) := ((Kept.refl _ _).alloc _).alloc _
  have hp' := hp.alloc (.cells #[.int .i64 c] 25)
  have hg' := (h.1.alloc (.cells #[.pointer (some ⟨g, 0, none⟩)] 80)).alloc (.cells #[.int .i64 c] 25)
  have ho' := (h.2.alloc (.cells #[.pointer (some ⟨g, 0, none⟩)] 80)).alloc (.cells #[.int .i64 c] 25)
  have hsz : w.heap.size + 2 = ((w.alloc (.cells #[.pointer (some ⟨g, 0, none⟩)] 80)).alloc (.cells #[.int .i64 c] 25)).heap.size := by simp
  clear hp h hc
  go_enter Try.func55, Try.ntmps55
  go_upto_region 1 with (fail)
  generalize ((w.alloc (.cells #[.pointer (some ⟨g, 0, none⟩)] 80)).alloc (.cells #[.int .i64 c] 25)) = w1 at *
  generalize w.heap.size = p at *
  have p0 := hp'.cell 0 (v := .pointer (some ⟨g, 0, none⟩)) rfl
  have q0 := hcc.cell 0 (v := .int .i64 c) rfl
  have hmf : ∀ (fn : Fn) (first cap : Array Value) (w : World), (Instr.makeFunc fn first cap).run Try.prog w = .ok (.func fn first cap) w := fun _ _ _ _ => rfl
  have g0 := hg'.cell 0 (v := .pointer (some ⟨o, 0, none⟩)) rfl
  have hgo : g ≠ o := Has.ne hg' ho' (by decide)
  have hl1 := hg'.lt
  have hlp := hp'.lt
  have hlc := hcc.lt
  have hne1 : g ≠ p := by omega
  have hne2 : g ≠ p + 1 := by omega
  go_wp2_with fail
  refine (i64_add _ x.times 1 _ (hg'.cell 2 rfl) (hg'.free 2)).mono ?_
  rintro e w' ⟨rfl, rfl⟩
  go_wp2_with fail
  have hr : g ≠ w1.heap.size := Nat.ne_of_lt hl1
  have hro : o ≠ w1.heap.size := Nat.ne_of_lt ho'.lt
  have hW : Has ((w1.setCell ⟨g, 2, none⟩ (.int .i64 (wrap64 (x.times + 1)))).alloc (.cells #[.bool false] 4)) w1.heap.size 4 [.bool false] := by
    have := Has.new (w1.setCell ⟨g, 2, none⟩ (.int .i64 (wrap64 (x.times + 1)))) 4 [.bool false]
    rw [World.size_setCell] at this
    exact this
  have hG2 := (hg'.set 2 (.int .i64 (wrap64 (x.times + 1)))).alloc (.cells #[.bool false] 4)
  have hO2 := (ho'.set_ne ⟨g, 2, none⟩ (.int .i64 (wrap64 (x.times + 1))) (fun e => hgo e.symm)).alloc (.cells #[.bool false] 4)
  have hP2 := (hp'.set_ne ⟨g, 2, none⟩ (.int .i64 (wrap64 (x.times + 1))) (fun e => hne1 e.symm)).alloc (.cells #[.bool false] 4)
  have hC2 := (hcc.set_ne ⟨g, 2, none⟩ (.int .i64 (wrap64 (x.times + 1))) (fun e => hne2 e.symm)).alloc (.cells #[.bool false] 4)
  have hk2 := (hk.set ⟨g, 2, none⟩ (.int .i64 (wrap64 (x.times + 1))) (by simp)).alloc (.cells #[.bool false] 4)
  have hrw : w.heap.size ≤ w1.heap.size := hk.size
  clear hk hp' hcc hg' ho' p0 q0 g0 hmf hl1 hlp hlc
  generalize ((w1.setCell ⟨g, 2, none⟩ (.int .i64 (wrap64 (x.times + 1)))).alloc (.cells #[.bool false] 4)) = W at *
  generalize w1.heap.size = r at *
  have hgc : g ≠ p + 1 := hne2
  have hk3 := Lib.hid hk2
  clear hk2
  cases hx : x.fallen with
  | true =>
    rw [hx] at hO2
    have e : x.trip c = { x with times := wrap64 (x.times + 1) } := by simp [G.trip, hx]
    have E := Lib.hid e
    have X := Lib.hid hx
    clear e hx
    refine (do_done ⟨o, 0, none⟩ _ _ (hO2.cell 0 rfl)).mono ?_
    rintro e w' ⟨rfl, rfl⟩
    have f0 := hW.cell 0 (v := .bool false) rfl
    go_wp2_with fail
    go_ret
    refine ⟨by rw [X.out]; rfl, hk3.out, ?_⟩
    rw [E.out]
    exact ⟨hG2, by rw [X.out]; exact hO2⟩
  | false =>
    rw [hx] at hO2
    have e : x.trip c = ⟨c, true, wrap64 (x.times + 1)⟩ := by simp [G.trip, hx]
    have E := Lib.hid e
    have X := Lib.hid hx
    clear e hx
    have hcf : ∀ w, (callFunc 69 #[.pointer (some ⟨p + 1, 0, none⟩), .pointer (some ⟨p, 0, none⟩), .pointer (some ⟨r, 0, none⟩)]).run Try.prog w = .ok (.enter 69 #[.pointer (some ⟨p + 1, 0, none⟩), .pointer (some ⟨p, 0, none⟩), .pointer (some ⟨r, 0, none⟩)]) w := by
      intro w; simp [callFunc, Try.func69, go_sem]; rfl
    have hop : o ≠ p := Has.ne hO2 hP2 (by decide)
    have hoc : o ≠ p + 1 := Has.ne hO2 hC2 (by decide)
    have hO3 := hO2.set 1 (.int .i32 1)
    have hG3 := hG2.set_ne ⟨o, 1, none⟩ (.int .i32 1) hgo
    have hP3 := hP2.set_ne ⟨o, 1, none⟩ (.int .i32 1) (fun e => hop e.symm)
    have hC3 := hC2.set_ne ⟨o, 1, none⟩ (.int .i32 1) (fun e => hoc e.symm)
    have hF3 := hW.set_ne ⟨o, 1, none⟩ (.int .i32 1) (fun e => hro e.symm)
    have hO4 := (hO3.set_ne ⟨g, 1, none⟩ (.int .i64 c) (fun e => hgo e.symm)).set_ne ⟨r, 0, none⟩ (.bool true) hro
    have hG4 := (hG3.set 1 (.int .i64 c)).set_ne ⟨r, 0, none⟩ (.bool true) hr
    have hF4 := (hF3.set_ne ⟨g, 1, none⟩ (.int .i64 c) (fun e => hr e.symm)).set 0 (.bool true)
    have hk4 := (((hk3.out.set ⟨o, 1, none⟩ (.int .i32 1) (by simp)).set ⟨g, 1, none⟩ (.int .i64 c) (by simp)).set ⟨r, 0, none⟩ (.bool true) (fun h => by simp at h; omega))
    refine (do_ret o 0 69 _ W (fun W' => W' = ((W.setCell ⟨o, 1, none⟩ (.int .i32 1)).setCell ⟨g, 1, none⟩ (.int .i64 c)).setCell ⟨r, 0, none⟩ (.bool true)) (hO2.cell 0 rfl) (hO2.cell 1 rfl) (hO2.free 0) (hO2.free 1) hcf ?_).mono ?_
    · refine (trip1_call g (p + 1) p r c _ _ _ hC3 hP3 hF3 hG3).mono ?_
      rintro e w' ⟨rfl, rfl⟩
      exact ⟨rfl, hO4.cell 0 rfl, hO4.cell 1 rfl, hO4.free 0, hO4.free 1, rfl⟩
    rintro e w' ⟨rfl, W', rfl, hw'⟩
    have hO5 := (hO4.drew.set 0 (.int .u32 1)).set 1 (.int .i32 0)
    have hG5 := ((hG4.drew.set_ne ⟨o, 0, none⟩ (.int .u32 1) hgo).set_ne ⟨o, 1, none⟩ (.int .i32 0) hgo)
    have hF5 := ((hF4.drew.set_ne ⟨o, 0, none⟩ (.int .u32 1) (fun e => hro e.symm)).set_ne ⟨o, 1, none⟩ (.int .i32 0) (fun e => hro e.symm))
    have hk5 := ((hk4.drew.set ⟨o, 0, none⟩ (.int .u32 1) (by simp)).set ⟨o, 1, none⟩ (.int .i32 0) (by simp))
    rw [← hw'] at hO5 hG5 hF5 hk5
    have hk6 := Lib.hid hk5
    clear hw' hk5 hk4 hO4 hG4 hF4 hO3 hG3 hP3 hC3 hF3 hcf
    have f0 := hF5.cell 0 (v := .bool true) rfl
    go_wp2_with fail
    go_ret
    refine ⟨by rw [X.out]; rfl, hk6.out, ?_⟩
    rw [E.out]
    exact ⟨hG5, hO5⟩
end Go.Proofs.Ytlafkeijikbenab.GateC
