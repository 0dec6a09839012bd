/- The walks and the plain laws of WdA, WdB, WdN, WdP, WdS, WdW. -/
import Derived.Test.YtinaliblnihpbaaGreatV16
import Derived.Test.YtinaliblnihpbaaGreatV15
import Derived.Test.YtinaliblnihpbaaGreatV10
set_option linter.unusedVariables false
set_option linter.unusedSimpArgs false
open Go.Lib (hid)
namespace Go.Proofs.YtinaliblnihpbaaGreat
namespace WdC
open Go Go.RowKit Hp Sl Ow Rw TM BagC HostC DevC MemC
def own (G : Nat → Prop) (lab : Nat → Nat) (a i : Nat) : Prop := G i ∧ lab i = a
def hand (G : Nat → Prop) (lab : Nat → Nat) (w : World) (a i : Nat) : Prop := G i ∧ (w.heap.size ≤ i ∨ lab i = a)
def relab (lab : Nat → Nat) (w : World) (a i : Nat) : Nat := if i < w.heap.size then lab i else a
variable {G G' : Nat → Prop} {lab : Nat → Nat} {w w' : World} {a j : Nat}
theorem opn_hand (h : Opn G w) : Opn (hand G lab w a) w := fun i hi => ⟨h i hi, .inl hi⟩
theorem kg_hand (h : KG (hand G lab w a) w w') : KG G w w' := h.shed (fun i _ q => q.1)
theorem own_hand (i : Nat) (h : own G lab a i) : hand G lab w a i := ⟨h.1, .inr h.2⟩
theorem hand_own (hw : w.heap.size ≤ w'.heap.size) (i : Nat) (h : hand G lab w a i) : own G (relab lab w a) a i := by
  refine ⟨h.1, ?_⟩
  unfold relab
  split
  · rcases h.2 with q | q
    · omega
    · exact q
  · rfl
theorem own_relab (i : Nat) (hi : i < w.heap.size) (h : own G lab a i) : own G (relab lab w j) a i := ⟨h.1, by unfold relab; rw [if_pos hi]; exact h.2⟩
theorem other_relab (hne : a ≠ j) (i : Nat) (hi : i < w.heap.size) (h : hand G lab w j i) : ¬ own G (relab lab w j) a i := by
  rintro ⟨_, q⟩
  unfold relab at q
  rw [if_pos hi] at q
  rcases h.2 with r | r
  · omega
  · exact hne (q.symm.trans r)
structure Part (P : (Nat → Prop) → World → Prop) : Prop where
  frame : ∀ {G : Nat → Prop} {w w' : World} {S : List Nat}, P G w → Kept S w w' → (∀ i, i ∈ S → i < w.heap.size → ¬ G i) → P G w'
  mono : ∀ {G G' : Nat → Prop} {w : World}, P G w → (∀ i, i < w.heap.size → G i → G' i) → P G' w
theorem Part.other {P : (Nat → Prop) → World → Prop} (hP : Part P) (h : P (own G lab a) w) (k : KG (hand G lab w j) w w') (hne : a ≠ j) : P (own G (relab lab w j) a) w' := by
  obtain ⟨S, h1, h2⟩ := k
  exact hP.frame (hP.mono h (fun i hi q => own_relab i hi q)) h2 (fun i hi hl => other_relab hne i hl (h1 i hi))
theorem Part.pre {P : (Nat → Prop) → World → Prop} (hP : Part P) (h : P (own G lab a) w) : P (hand G lab w a) w := hP.mono h (fun i _ q => own_hand i q)
theorem Part.post {P : (Nat → Prop) → World → Prop} (hP : Part P) (hw : w.heap.size ≤ w'.heap.size) (h : P (hand G lab w a) w') : P (own G (relab lab w a) a) w' := hP.mono h (fun i _ q => hand_own hw i q)
def DevM (G : Nat → Prop) (w : World) (b m mb : Nat) (x : D) : Prop := devOf (fun i => G i ∧ i ≠ m ∧ i ≠ mb) w b m mb x ∧ G m ∧ G mb
theorem devM_kg {m mb : Nat} (hm : G m) (hmb : G mb) (k : KG (GM (fun i => G i ∧ i ≠ m ∧ i ≠ mb) m mb) w w') : KG G w w' :=
  k.shed (fun i _ q => q.elim (fun r => r.1) (fun r => r.elim (fun e => e ▸ hm) (fun e => e ▸ hmb)))
theorem devM_opn {m mb : Nat} (hG : Opn G w) (h1 : m < w.heap.size) (h2 : mb < w.heap.size) : Opn (fun i => G i ∧ i ≠ m ∧ i ≠ mb) w := fun i hi => ⟨hG i hi, fun e => by omega, fun e => by omega⟩
theorem DevM.lt {b m mb : Nat} {x : D} (h : DevM G w b m mb x) : m < w.heap.size ∧ mb < w.heap.size := by
  obtain ⟨⟨d, v, g, o, lg, k, c, s, h⟩, _⟩ := h; exact h.mem.lt
theorem part_host (b : Nat) (x : H) : Part (fun G w => hostOf G w b x) :=
  ⟨fun h k hS => by obtain ⟨d, v, g, o, lg, kk, s, h⟩ := h; exact ⟨d, v, g, o, lg, kk, s, h.frame k hS⟩,
   fun h hG => by obtain ⟨d, v, g, o, lg, kk, s, h⟩ := h; exact ⟨d, v, g, o, lg, kk, s, h.mono hG⟩⟩
theorem part_dev (b m mb : Nat) (x : D) : Part (fun G w => DevM G w b m mb x) :=
  ⟨fun h k hS => by
    have hl := h.lt
    obtain ⟨⟨d, v, g, o, lg, kk, c, s, h⟩, h1, h2⟩ := h
    exact ⟨⟨d, v, g, o, lg, kk, c, s, h.frame k (fun i hi hl q => hS i hi hl q.1) (fun hm => hS _ hm hl.1 h1) (fun hm => hS _ hm hl.2 h2)⟩, h1, h2⟩,
   fun h hG => by
    have hl := h.lt
    obtain ⟨⟨d, v, g, o, lg, kk, c, s, h⟩, h1, h2⟩ := h
    exact ⟨⟨d, v, g, o, lg, kk, c, s, h.mono (fun i hi q => ⟨hG i hi q.1, q.2⟩) (fun q => q.2.1 rfl) (fun q => q.2.2 rfl)⟩, hG _ hl.1 h1, hG _ hl.2 h2⟩⟩
theorem part_bag (b : Nat) (us : List U) : Part (fun G w => IsB G w b us) := ⟨fun h k hS => h.frame k hS, fun h hG => h.mono hG⟩
structure CP where
  h : Nat
  d : Nat
  m : Nat
  mb : Nat
def CP.vals (p : CP) : List Value := [.pointer (some ⟨p.h, 0, none⟩), .pointer (some ⟨p.d, 0, none⟩), .pointer (some ⟨p.m, 0, none⟩)]
def conV (cs : List CP) : List Value := cs.flatMap CP.vals
theorem conV_at (cs : List CP) (k : Nat) (p : CP) (h : cs[k]? = some p) : (conV cs)[k * 3]? = some (.pointer (some ⟨p.h, 0, none⟩)) ∧ (conV cs)[k * 3 + 1]? = some (.pointer (some ⟨p.d, 0, none⟩)) ∧ (conV cs)[k * 3 + 2]? = some (.pointer (some ⟨p.m, 0, none⟩)) := by
  induction cs generalizing k with
  | nil => simp at h
  | cons q cs ih =>
    cases k with
    | zero => simp at h; subst h; exact ⟨rfl, rfl, rfl⟩
    | succ k =>
      have := ih k (by simpa using h)
      have e : ∀ i, (conV (q :: cs))[i + 3]? = (conV cs)[i]? := fun i => rfl
      rw [show (k + 1) * 3 = k * 3 + 3 by omega, show k * 3 + 3 + 1 = (k * 3 + 1) + 3 by omega, show k * 3 + 3 + 2 = (k * 3 + 2) + 3 by omega, e, e, e]
      exact this
structure Top0 (b : Nat) (nh nd : Value) (mx : Int) (cv : Value) (ca : Nat) (cs : List CP) (bb : Nat) (fv : Value) (fa : Option Nat) (n : Nat) (xs : List Value) (mo : Int) (G : Nat → Prop) (w : World) : Prop where
  top : Has w b 81 [nh, nd, .int .u32 mx, cv, .pointer (some ⟨bb, 0, none⟩), fv, .int .i64 mo]
  con : Rws w 92 3 (some ca) cv cs.length (conV cs)
  fct : Rws w 153 8 fa fv n xs
  gb : G b
  gc : G ca
  gf : ∀ g, fa = some g → G g
theorem part_top (b : Nat) (nh nd : Value) (mx : Int) (cv : Value) (ca : Nat) (cs : List CP) (bb : Nat) (fv : Value) (fa : Option Nat) (n : Nat) (xs : List Value) (mo : Int) : Part (Top0 b nh nd mx cv ca cs bb fv fa n xs mo) :=
  ⟨fun h k hS => ⟨k.has h.top (fun hm => hS _ hm h.top.lt h.gb), h.con.kept k (fun g hg hm => by cases hg; exact hS _ hm (h.con.lt rfl) h.gc), h.fct.kept k (fun g hg hm => hS _ hm (h.fct.lt hg) (h.gf g hg)), h.gb, h.gc, h.gf⟩,
   fun h hG => ⟨h.top, h.con, h.fct, hG _ h.top.lt h.gb, hG _ (h.con.lt rfl) h.gc, fun g hg => hG _ (h.fct.lt hg) (h.gf g hg)⟩⟩
structure WAt (G : Nat → Prop) (lab : Nat → Nat) (w : World) (b : Nat) (nh nd : Value) (mx : Int) (cv : Value) (ca : Nat) (cs : List CP) (bb : Nat) (fv : Value) (fa : Option Nat) (n : Nat) (xs : List Value) (x : Wd) : Prop where
  t0 : Top0 b nh nd mx cv ca cs bb fv fa n xs x.moves (own G lab 0) w
  bag : IsB (own G lab 1) w bb x.bag
  len : cs.length = x.cs.length
  host : ∀ k p, cs[k]? = some p → hostOf (own G lab (2 + 2 * k)) w p.h (x.cn k).h
  dev : ∀ k p, cs[k]? = some p → DevM (own G lab (3 + 2 * k)) w p.d p.m p.mb (x.cn k).d
variable {b : Nat} {nh nd : Value} {mx : Int} {cv : Value} {ca : Nat} {cs : List CP} {bb : Nat} {fv : Value} {fa : Option Nat} {n : Nat} {xs : List Value} {x y : Wd}
theorem WAt.hosts {k : Nat} {p : CP} {h' : H} (h : WAt G lab w b nh nd mx cv ca cs bb fv fa n xs x) (hp : cs[k]? = some p) (kg : KG (hand G lab w (2 + 2 * k)) w w') (hh : hostOf (hand G lab w (2 + 2 * k)) w' p.h h') (hm : y.moves = x.moves) (hb : y.bag = x.bag) (hl : y.cs.length = x.cs.length) (hk : (y.cn k).h = h') (ho : ∀ i, i ≠ k → (y.cn i).h = (x.cn i).h) (hd : ∀ i, (y.cn i).d = (x.cn i).d) : WAt G (relab lab w (2 + 2 * k)) w' b nh nd mx cv ca cs bb fv fa n xs y := by
  refine ⟨hm ▸ (part_top ..).other h.t0 kg (by omega), hb ▸ (part_bag ..).other h.bag kg (by omega), h.len.trans hl.symm, fun i q hq => ?_, fun i q hq => ?_⟩
  · by_cases e : i = k
    · subst e
      rw [hp] at hq; cases hq
      rw [hk]; exact (part_host ..).post kg.size hh
    · rw [ho i e]; exact (part_host ..).other (h.host i q hq) kg (by omega)
  · rw [hd i]; exact (part_dev ..).other (h.dev i q hq) kg (by omega)
theorem WAt.devs {k : Nat} {p : CP} {d' : D} (h : WAt G lab w b nh nd mx cv ca cs bb fv fa n xs x) (hp : cs[k]? = some p) (kg : KG (hand G lab w (3 + 2 * k)) w w') (hh : DevM (hand G lab w (3 + 2 * k)) w' p.d p.m p.mb d') (hm : y.moves = x.moves) (hb : y.bag = x.bag) (hl : y.cs.length = x.cs.length) (hk : (y.cn k).d = d') (ho : ∀ i, i ≠ k → (y.cn i).d = (x.cn i).d) (hd : ∀ i, (y.cn i).h = (x.cn i).h) : WAt G (relab lab w (3 + 2 * k)) w' b nh nd mx cv ca cs bb fv fa n xs y := by
  refine ⟨hm ▸ (part_top ..).other h.t0 kg (by omega), hb ▸ (part_bag ..).other h.bag kg (by omega), h.len.trans hl.symm, fun i q hq => ?_, fun i q hq => ?_⟩
  · rw [hd i]; exact (part_host ..).other (h.host i q hq) kg (by omega)
  · by_cases e : i = k
    · subst e
      rw [hp] at hq; cases hq
      rw [hk]; exact (part_dev ..).post kg.size hh
    · rw [ho i e]; exact (part_dev ..).other (h.dev i q hq) kg (by omega)
theorem WAt.bags {us : List U} (h : WAt G lab w b nh nd mx cv ca cs bb fv fa n xs x) (kg : KG (hand G lab w 1) w w') (hb : IsB (hand G lab w 1) w' bb us) : WAt G (relab lab w 1) w' b nh nd mx cv ca cs bb fv fa n xs { x with bag := us } :=
  ⟨(part_top ..).other h.t0 kg (by omega), (part_bag ..).post kg.size hb, h.len, fun i q hq => (part_host ..).other (h.host i q hq) kg (by omega), fun i q hq => (part_dev ..).other (h.dev i q hq) kg (by omega)⟩
theorem WAt.tops {fv' : Value} {fa' : Option Nat} {n' : Nat} {xs' : List Value} {mo : Int} (h : WAt G lab w b nh nd mx cv ca cs bb fv fa n xs x) (kg : KG (hand G lab w 0) w w') (ht : Top0 b nh nd mx cv ca cs bb fv' fa' n' xs' mo (hand G lab w 0) w') : WAt G (relab lab w 0) w' b nh nd mx cv ca cs bb fv' fa' n' xs' { x with moves := mo } :=
  ⟨(part_top ..).post kg.size ht, (part_bag ..).other h.bag kg (by omega), h.len, fun i q hq => (part_host ..).other (h.host i q hq) kg (by omega), fun i q hq => (part_dev ..).other (h.dev i q hq) kg (by omega)⟩
theorem WAt.frame {S : List Nat} (h : WAt G lab w b nh nd mx cv ca cs bb fv fa n xs x) (k : Kept S w w') (hS : ∀ i, i ∈ S → i < w.heap.size → ¬ G i) : WAt G lab w' b nh nd mx cv ca cs bb fv fa n xs x :=
  ⟨(part_top ..).frame h.t0 k (fun i hi hl q => hS i hi hl q.1), (part_bag ..).frame h.bag k (fun i hi hl q => hS i hi hl q.1), h.len, fun i q hq => (part_host ..).frame (h.host i q hq) k (fun i hi hl q => hS i hi hl q.1), fun i q hq => (part_dev ..).frame (h.dev i q hq) k (fun i hi hl q => hS i hi hl q.1)⟩
theorem WAt.nil (h : WAt G lab w b nh nd mx cv ca cs bb fv fa n xs x) (k : Kept [] w w') : WAt G lab w' b nh nd mx cv ca cs bb fv fa n xs x := h.frame k (by simp)
theorem WAt.mono (h : WAt G lab w b nh nd mx cv ca cs bb fv fa n xs x) (hG : ∀ i, i < w.heap.size → G i → G' i) : WAt G' lab w b nh nd mx cv ca cs bb fv fa n xs x :=
  ⟨(part_top ..).mono h.t0 (fun i hi q => ⟨hG i hi q.1, q.2⟩), (part_bag ..).mono h.bag (fun i hi q => ⟨hG i hi q.1, q.2⟩), h.len, fun i q hq => (part_host ..).mono (h.host i q hq) (fun i hi q => ⟨hG i hi q.1, q.2⟩), fun i q hq => (part_dev ..).mono (h.dev i q hq) (fun i hi q => ⟨hG i hi q.1, q.2⟩)⟩
end WdC
namespace WdC
open Go Go.RowKit Hp Sl Ow Rw TM BagC HostC DevC MemC ValveC EncW UEnc
variable {G G' : Nat → Prop} {lab : Nat → Nat} {w w' : World} {a j : Nat} {b : Nat} {nh nd : Value} {mx : Int} {cv : Value} {ca : Nat} {cs : List CP} {bb : Nat} {fv : Value} {fa : Option Nat} {n : Nat} {xs : List Value} {x y : Wd}
theorem WAt.at_ {k : Nat} {p : CP} (h : WAt G lab w b nh nd mx cv ca cs bb fv fa n xs x) (hp : cs[k]? = some p) : ∃ cap, cv = .slice (some ⟨ca, 0, none⟩) cs.length cap ∧ cs.length ≤ cap ∧ k < cs.length ∧ w.cell? ⟨ca, k * 3, none⟩ = some (.pointer (some ⟨p.h, 0, none⟩)) ∧ w.cell? ⟨ca, k * 3 + 1, none⟩ = some (.pointer (some ⟨p.d, 0, none⟩)) ∧ w.cell? ⟨ca, k * 3 + 2, none⟩ = some (.pointer (some ⟨p.m, 0, none⟩)) := by
  obtain ⟨h1, h2, h3⟩ := conV_at cs k p hp
  obtain ⟨g, cap, e, hle, ea, c1⟩ := h.t0.con.cell (k * 3) _ h1
  obtain ⟨g2, cap2, e2, _, ea2, c2⟩ := h.t0.con.cell (k * 3 + 1) _ h2
  obtain ⟨g3, cap3, e3, _, ea3, c3⟩ := h.t0.con.cell (k * 3 + 2) _ h3
  cases ea; cases ea2; cases ea3
  exact ⟨cap, e, hle, (List.getElem?_eq_some_iff.1 hp).1, c1, c2, c3⟩
theorem nine {w : World} {R : Nat} {T : TypeId} {v0 v1 v2 v3 v4 v5 v6 v7 v8 : Value} (h : Has w R T [v0, v1, v2, v3, v4, v5, v6, v7, v8]) : w.cell? ⟨R, 0, none⟩ = some v0 ∧ w.frozen? ⟨R, 0, none⟩ = false ∧ w.cell? ⟨R, 1, none⟩ = some v1 ∧ w.frozen? ⟨R, 1, none⟩ = false ∧ w.cell? ⟨R, 2, none⟩ = some v2 ∧ w.frozen? ⟨R, 2, none⟩ = false ∧ w.cell? ⟨R, 3, none⟩ = some v3 ∧ w.frozen? ⟨R, 3, none⟩ = false ∧ w.cell? ⟨R, 4, none⟩ = some v4 ∧ w.frozen? ⟨R, 4, none⟩ = false ∧ w.cell? ⟨R, 5, none⟩ = some v5 ∧ w.frozen? ⟨R, 5, none⟩ = false ∧ w.cell? ⟨R, 6, none⟩ = some v6 ∧ w.frozen? ⟨R, 6, none⟩ = false ∧ w.cell? ⟨R, 7, none⟩ = some v7 ∧ w.frozen? ⟨R, 7, none⟩ = false ∧ w.cell? ⟨R, 8, none⟩ = some v8 ∧ w.frozen? ⟨R, 8, none⟩ = false := ⟨h.cell 0 rfl, h.free 0, h.cell 1 rfl, h.free 1, h.cell 2 rfl, h.free 2, h.cell 3 rfl, h.free 3, h.cell 4 rfl, h.free 4, h.cell 5 rfl, h.free 5, h.cell 6 rfl, h.free 6, h.cell 7 rfl, h.free 7, h.cell 8 rfl, h.free 8⟩
theorem set9 {w : World} {R : Nat} {T : TypeId} {v0 v1 v2 v3 v4 v5 v6 v7 v8 u0 u1 u2 u3 u4 u5 u6 u7 u8 : Value} (h : Has w R T [v0, v1, v2, v3, v4, v5, v6, v7, v8]) : Has ((((((((((w.setCell ⟨R, 0, none⟩ u0).setCell ⟨R, 1, none⟩ u1).setCell ⟨R, 2, none⟩ u2).setCell ⟨R, 3, none⟩ u3).setCell ⟨R, 4, none⟩ u4).setCell ⟨R, 5, none⟩ u5).setCell ⟨R, 6, none⟩ u6).setCell ⟨R, 7, none⟩ u7).setCell ⟨R, 8, none⟩ u8)) R T [u0, u1, u2, u3, u4, u5, u6, u7, u8] :=
  (((((((((h.set 0 u0).set 1 u1).set 2 u2).set 3 u3).set 4 u4).set 5 u5).set 6 u6).set 7 u7).set 8 u8)
theorem kept9 (w : World) (R : Nat) (u0 u1 u2 u3 u4 u5 u6 u7 u8 : Value) : Kept [R] w ((((((((((w.setCell ⟨R, 0, none⟩ u0).setCell ⟨R, 1, none⟩ u1).setCell ⟨R, 2, none⟩ u2).setCell ⟨R, 3, none⟩ u3).setCell ⟨R, 4, none⟩ u4).setCell ⟨R, 5, none⟩ u5).setCell ⟨R, 6, none⟩ u6).setCell ⟨R, 7, none⟩ u7).setCell ⟨R, 8, none⟩ u8)) :=
  ((((((((((Kept.refl [R] w).set ⟨R, 0, none⟩ u0 (by simp)).set ⟨R, 1, none⟩ u1 (by simp)).set ⟨R, 2, none⟩ u2 (by simp)).set ⟨R, 3, none⟩ u3 (by simp)).set ⟨R, 4, none⟩ u4 (by simp)).set ⟨R, 5, none⟩ u5 (by simp)).set ⟨R, 6, none⟩ u6 (by simp)).set ⟨R, 7, none⟩ u7 (by simp)).set ⟨R, 8, none⟩ u8 (by simp))
theorem nine9 {w : World} {R : Nat} {T : TypeId} {v0 v1 v2 v3 v4 v5 v6 v7 v8 : Value} (h : Has w R T [v0, v1, v2, v3, v4, v5, v6, v7, v8]) : w.cell? ⟨R, 0, none⟩ = some v0 ∧ w.cell? ⟨R, 1, none⟩ = some v1 ∧ w.cell? ⟨R, 2, none⟩ = some v2 ∧ w.cell? ⟨R, 3, none⟩ = some v3 ∧ w.cell? ⟨R, 4, none⟩ = some v4 ∧ w.cell? ⟨R, 5, none⟩ = some v5 ∧ w.cell? ⟨R, 6, none⟩ = some v6 ∧ w.cell? ⟨R, 7, none⟩ = some v7 ∧ w.cell? ⟨R, 8, none⟩ = some v8 := ⟨h.cell 0 rfl, h.cell 1 rfl, h.cell 2 rfl, h.cell 3 rfl, h.cell 4 rfl, h.cell 5 rfl, h.cell 6 rfl, h.cell 7 rfl, h.cell 8 rfl⟩
set_option maxRecDepth 100000 in
theorem seeH_call {k : Nat} {p : CP} (h : WAt G lab w b nh nd mx cv ca cs bb fv fa n xs x) (hp : cs[k]? = some p) (hn : cs.length ≤ 8) (hv : 1 ≤ (x.cn k).h.v.n ∧ (x.cn k).h.v.n ≤ 8) :
    Calls Tryz.prog 46 #[.pointer (some ⟨b, 0, none⟩), .int .i64 (k : Int), .int .i64 1] w fun e w' => ∃ s', e = .returned (.tuple #[eval' (x.cn k).h.see s', .int .i64 0]) ∧ Kept [] w w' ∧ Outs w w' s' (x.cn k).h.v.out := by
  obtain ⟨cap, rfl, hle, hk, c1, c2, c3⟩ := h.at_ hp
  obtain ⟨d1, v1, g1, o1, lg1, k1, s1, hh⟩ := h.host k p hp
  have HV := hid hv
  have HH := hid hh
  have c4 := h.t0.top.cell 3 rfl
  have q1 : decide ((k : Int) < 0) = false := by first | (simp; done) | (simp; omega)
  have q2 : decide ((k : Int) ≥ (cs.length : Int)) = false := by first | (simp; done) | (simp; omega)
  have q3 : (k : Int) < (cs.length : Int) := by omega
  have q4 : (0 : Int) ≤ (k : Int) := by omega
  have hb := h.t0.top.lt
  have hca := h.t0.con.lt rfl
  clear h hh hv c2 c3
  go_enter Tryz.func46, Tryz.ntmps46
  go_wp2_with fail
  have K0 := hid ((Kept.refl [] w).alloc (.cells #[.int .i64 0, .int .u32 0, .int .u32 0, .int .u32 0, .int .i64 0, .int .i64 0, .bool false, .bool false, .slice none 0 0] 42))
  have E0 := hid (Has.new w 42 [.int .i64 0, .int .u32 0, .int .u32 0, .int .u32 0, .int .i64 0, .int .i64 0, .bool false, .bool false, .slice none 0 0])
  have H0 := hid (HH.out.nil K0.out)
  clear c1 c4 hb hca
  generalize w.alloc (.cells #[.int .i64 0, .int .u32 0, .int .u32 0, .int .u32 0, .int .i64 0, .int .i64 0, .bool false, .bool false, .slice none 0 0] 42) = w0 at K0 E0 H0 ⊢
  obtain ⟨R, hR⟩ : ∃ R, R = w.heap.size := ⟨_, rfl⟩
  rw [← hR] at E0 ⊢
  have RR := hid (Nat.le_of_eq hR.symm)
  clear hR
  refine (HostC.see_call HV.out.1 HV.out.2 H0.out).mono ?_
  rintro e w1 ⟨s', rfl, k1, o1⟩
  have K1 := hid (K0.out.trans k1)
  have E1 := hid (k1.has E0.out (by simp))
  obtain ⟨kk, hkk, ho⟩ := o1
  obtain ⟨cap2, cur2, rfl, _⟩ := id ho
  have HO := hid ho
  have HK := hid hkk
  clear k1 hkk ho
  obtain ⟨u0, g0, u1, g1, u2, g2, u3, g3, u4, g4, u5, g5, u6, g6, u7, g7, u8, g8⟩ := nine E1.out
  unfold eval'
  go_wp2_with fail
  clear u0 g0 u1 g1 u2 g2 u3 g3 u4 g4 u5 g5 u6 g6 u7 g7 u8 g8
  have KS := kept9 w1 R (.int .i64 (x.cn k).h.see.state) (.int .u32 (x.cn k).h.see.ses) (.int .u32 (x.cn k).h.see.num) (.int .u32 (x.cn k).h.see.sent) (.int .i64 (x.cn k).h.see.since) (.int .i64 (x.cn k).h.see.latched) (.bool (x.cn k).h.see.request) (.bool (x.cn k).h.see.on) (.slice (some ⟨kk, 0, none⟩) (x.cn k).h.v.out.length cap2)
  have ES := set9 (u0 := .int .i64 (x.cn k).h.see.state) (u1 := .int .u32 (x.cn k).h.see.ses) (u2 := .int .u32 (x.cn k).h.see.num) (u3 := .int .u32 (x.cn k).h.see.sent) (u4 := .int .i64 (x.cn k).h.see.since) (u5 := .int .i64 (x.cn k).h.see.latched) (u6 := .bool (x.cn k).h.see.request) (u7 := .bool (x.cn k).h.see.on) (u8 := .slice (some ⟨kk, 0, none⟩) (x.cn k).h.v.out.length cap2) E1.out
  have KF := hid (K1.out.fresh KS (by intro i hi hl; simp at hi; subst hi; exact absurd hl (Nat.not_lt.2 RR.out)))
  have HF := hid (HO.out.kept KS (by have := HK.out; have := E0.out.lt; simp; omega))
  clear KS
  generalize (((((((((w1.setCell ⟨R, 0, none⟩ (.int .i64 (x.cn k).h.see.state)).setCell ⟨R, 1, none⟩ (.int .u32 (x.cn k).h.see.ses)).setCell ⟨R, 2, none⟩ (.int .u32 (x.cn k).h.see.num)).setCell ⟨R, 3, none⟩ (.int .u32 (x.cn k).h.see.sent)).setCell ⟨R, 4, none⟩ (.int .i64 (x.cn k).h.see.since)).setCell ⟨R, 5, none⟩ (.int .i64 (x.cn k).h.see.latched)).setCell ⟨R, 6, none⟩ (.bool (x.cn k).h.see.request)).setCell ⟨R, 7, none⟩ (.bool (x.cn k).h.see.on)).setCell ⟨R, 8, none⟩ (.slice (some ⟨kk, 0, none⟩) (x.cn k).h.v.out.length cap2)) = w5 at KF HF ES ⊢
  obtain ⟨u0, u1, u2, u3, u4, u5, u6, u7, u8⟩ := nine9 ES
  refine bodyPost_ret (v := .tuple #[eval' (x.cn k).h.see (.slice (some ⟨kk, 0, none⟩) (x.cn k).h.v.out.length cap2), .int .i64 0]) (by simp [results, Tryz.results46, go_sem, eval', *]) rfl ?_
  exact ⟨_, rfl, KF.out, kk, Nat.le_trans K0.out.size HK.out, HF.out⟩
set_option maxRecDepth 100000 in
theorem seeD_call {k : Nat} {p : CP} (h : WAt G lab w b nh nd mx cv ca cs bb fv fa n xs x) (hp : cs[k]? = some p) (hn : cs.length ≤ 8) (hv : 1 ≤ (x.cn k).d.v.n ∧ (x.cn k).d.v.n ≤ 8) :
    Calls Tryz.prog 46 #[.pointer (some ⟨b, 0, none⟩), .int .i64 (k : Int), .int .i64 2] w fun e w' => ∃ s', e = .returned (.tuple #[eval' (x.cn k).d.see s', .int .i64 0]) ∧ Kept [] w w' ∧ Outs w w' s' (x.cn k).d.v.out := by
  obtain ⟨cap, rfl, hle, hk, c1, c2, c3⟩ := h.at_ hp
  obtain ⟨⟨d1, v1, g1, o1, lg1, k1, c9, s1, hh⟩, _⟩ := h.dev k p hp
  have HV := hid hv
  have HH := hid hh
  have c4 := h.t0.top.cell 3 rfl
  have q1 : decide ((k : Int) < 0) = false := by first | (simp; done) | (simp; omega)
  have q2 : decide ((k : Int) ≥ (cs.length : Int)) = false := by first | (simp; done) | (simp; omega)
  have q3 : (k : Int) < (cs.length : Int) := by omega
  have q4 : (0 : Int) ≤ (k : Int) := by omega
  have hb := h.t0.top.lt
  have hca := h.t0.con.lt rfl
  clear h hh hv c1 c3
  go_enter Tryz.func46, Tryz.ntmps46
  go_wp2_with fail
  have K0 := hid ((Kept.refl [] w).alloc (.cells #[.int .i64 0, .int .u32 0, .int .u32 0, .int .u32 0, .int .i64 0, .int .i64 0, .bool false, .bool false, .slice none 0 0] 42))
  have E0 := hid (Has.new w 42 [.int .i64 0, .int .u32 0, .int .u32 0, .int .u32 0, .int .i64 0, .int .i64 0, .bool false, .bool false, .slice none 0 0])
  have H0 := hid (HH.out.nil K0.out)
  clear c2 c4 hb hca
  generalize w.alloc (.cells #[.int .i64 0, .int .u32 0, .int .u32 0, .int .u32 0, .int .i64 0, .int .i64 0, .bool false, .bool false, .slice none 0 0] 42) = w0 at K0 E0 H0 ⊢
  obtain ⟨R, hR⟩ : ∃ R, R = w.heap.size := ⟨_, rfl⟩
  rw [← hR] at E0 ⊢
  have RR := hid (Nat.le_of_eq hR.symm)
  clear hR
  refine (DevC.see_call HV.out.1 HV.out.2 H0.out).mono ?_
  rintro e w1 ⟨s', rfl, k1, o1⟩
  have K1 := hid (K0.out.trans k1)
  have E1 := hid (k1.has E0.out (by simp))
  obtain ⟨kk, hkk, ho⟩ := o1
  obtain ⟨cap2, cur2, rfl, _⟩ := id ho
  have HO := hid ho
  have HK := hid hkk
  clear k1 hkk ho
  obtain ⟨u0, g0, u1, g1, u2, g2, u3, g3, u4, g4, u5, g5, u6, g6, u7, g7, u8, g8⟩ := nine E1.out
  unfold eval'
  go_wp2_with fail
  clear u0 g0 u1 g1 u2 g2 u3 g3 u4 g4 u5 g5 u6 g6 u7 g7 u8 g8
  have KS := kept9 w1 R (.int .i64 (x.cn k).d.see.state) (.int .u32 (x.cn k).d.see.ses) (.int .u32 (x.cn k).d.see.num) (.int .u32 (x.cn k).d.see.sent) (.int .i64 (x.cn k).d.see.since) (.int .i64 (x.cn k).d.see.latched) (.bool (x.cn k).d.see.request) (.bool (x.cn k).d.see.on) (.slice (some ⟨kk, 0, none⟩) (x.cn k).d.v.out.length cap2)
  have ES := set9 (u0 := .int .i64 (x.cn k).d.see.state) (u1 := .int .u32 (x.cn k).d.see.ses) (u2 := .int .u32 (x.cn k).d.see.num) (u3 := .int .u32 (x.cn k).d.see.sent) (u4 := .int .i64 (x.cn k).d.see.since) (u5 := .int .i64 (x.cn k).d.see.latched) (u6 := .bool (x.cn k).d.see.request) (u7 := .bool (x.cn k).d.see.on) (u8 := .slice (some ⟨kk, 0, none⟩) (x.cn k).d.v.out.length cap2) E1.out
  have KF := hid (K1.out.fresh KS (by intro i hi hl; simp at hi; subst hi; exact absurd hl (Nat.not_lt.2 RR.out)))
  have HF := hid (HO.out.kept KS (by have := HK.out; have := E0.out.lt; simp; omega))
  clear KS
  generalize (((((((((w1.setCell ⟨R, 0, none⟩ (.int .i64 (x.cn k).d.see.state)).setCell ⟨R, 1, none⟩ (.int .u32 (x.cn k).d.see.ses)).setCell ⟨R, 2, none⟩ (.int .u32 (x.cn k).d.see.num)).setCell ⟨R, 3, none⟩ (.int .u32 (x.cn k).d.see.sent)).setCell ⟨R, 4, none⟩ (.int .i64 (x.cn k).d.see.since)).setCell ⟨R, 5, none⟩ (.int .i64 (x.cn k).d.see.latched)).setCell ⟨R, 6, none⟩ (.bool (x.cn k).d.see.request)).setCell ⟨R, 7, none⟩ (.bool (x.cn k).d.see.on)).setCell ⟨R, 8, none⟩ (.slice (some ⟨kk, 0, none⟩) (x.cn k).d.v.out.length cap2)) = w5 at KF HF ES ⊢
  obtain ⟨u0, u1, u2, u3, u4, u5, u6, u7, u8⟩ := nine9 ES
  refine bodyPost_ret (v := .tuple #[eval' (x.cn k).d.see (.slice (some ⟨kk, 0, none⟩) (x.cn k).d.v.out.length cap2), .int .i64 0]) (by simp [results, Tryz.results46, go_sem, eval', *]) rfl ?_
  exact ⟨_, rfl, KF.out, kk, Nat.le_trans K0.out.size HK.out, HF.out⟩
set_option maxRecDepth 100000 in
theorem frames_call (h : WAt G lab w b nh nd mx cv ca cs bb fv fa n xs x) : Calls Tryz.prog 17 #[.pointer (some ⟨b, 0, none⟩)] w fun e w' => e = .returned (.int .i64 (x.bag.length : Nat)) ∧ w' = w := by
  have BL := hid (b_len h.bag)
  have c4 := h.t0.top.cell 4 rfl
  clear h
  go_enter Tryz.func17, Tryz.ntmps17
  go_wp2_with fail
  refine BL.out.mono ?_
  rintro e w1 ⟨rfl, rfl⟩
  go_wp2_with fail
  go_ret
  exact ⟨rfl, rfl⟩
end WdC
namespace WdC
open Go Go.RowKit Hp Sl Ow Rw TM BagC HostC DevC MemC ValveC EncW UEnc
variable {G G' : Nat → Prop} {lab : Nat → Nat} {w w' : World} {a j : Nat} {b : Nat} {nh nd : Value} {mx : Int} {cv : Value} {ca : Nat} {cs : List CP} {bb : Nat} {fv : Value} {fa : Option Nat} {n : Nat} {xs : List Value} {x y : Wd}
theorem infoF : (Tryz.prog.info? 153).map (fun i => (i.zero, i.size, i.bytes)) = some (some (.agg #[.int .i64 0, .int .i64 0, .int .i64 0, .int .u32 0, .int .u32 0, .bool false, .int .i64 0, .slice none 0 0]), 8, 72) := by kernel_rfl
def fcells (ki co si se nu : Int) (on : Bool) (cd : Int) (p : Option Addr) (l c : Nat) : List Value := [.int .i64 ki, .int .i64 co, .int .i64 si, .int .u32 se, .int .u32 nu, .bool on, .int .i64 cd, .slice p l c]
def fval (ki co si se nu : Int) (on : Bool) (cd : Int) (p : Option Addr) (l c : Nat) : Value := .agg #[.int .i64 ki, .int .i64 co, .int .i64 si, .int .u32 se, .int .u32 nu, .bool on, .int .i64 cd, .slice p l c]
def Noted (G : Nat → Prop) (lab : Nat → Nat) (w w' : World) (b : Nat) (nh nd : Value) (mx : Int) (cv : Value) (ca : Nat) (cs : List CP) (bb : Nat) (n : Nat) (x : Wd) : Prop :=
  KG (hand G lab w 0) w w' ∧ ∃ lab' fv fa xs, (∀ i, i < w.heap.size → lab' i = lab i) ∧ WAt G lab' w' b nh nd mx cv ca cs bb fv fa n xs x
def WF (G : Nat → Prop) (w : World) (b : Nat) (nh nd : Value) (mx : Int) (cv : Value) (ca : Nat) (cs : List CP) (bb : Nat) (n : Nat) (x : Wd) : Prop :=
  ∃ lab fv fa xs, WAt G lab w b nh nd mx cv ca cs bb fv fa n xs x
set_option maxRecDepth 100000 in
set_option maxHeartbeats 3200000 in
theorem note_call2 (hG : Opn G w) (h : WAt G lab w b nh nd mx cv ca cs bb fv fa n xs x) (hn : n ≤ 1000000) (ki co si se nu : Int) (on : Bool) (cd : Int) (p : Option Addr) (l c : Nat) :
    Calls Tryz.prog 71 #[.pointer (some ⟨b, 0, none⟩), fval ki co si se nu on cd p l c] w fun e w' => e = .returned (.tuple #[]) ∧ Noted G lab w w' b nh nd mx cv ca cs bb (n + 1) x := by
  have HH := hid h
  have HG := hid hG
  have KA := hid ((Kept.refl [] w).alloc (.cells #[.int .i64 ki, .int .i64 co, .int .i64 si, .int .u32 se, .int .u32 nu, .bool on, .int .i64 cd, .slice p l c] 153))
  have FA := hid (Has.new w 153 (fcells ki co si se nu on cd p l c))
  have HN := hid hn
  clear h hG hn
  unfold fval
  go_enter Tryz.func71, Tryz.ntmps71
  go_wp2_with fail
  have FA : Hid (Has (w.alloc (.cells #[.int .i64 ki, .int .i64 co, .int .i64 si, .int .u32 se, .int .u32 nu, .bool on, .int .i64 cd, .slice p l c] 153)) w.heap.size 153 (fcells ki co si se nu on cd p l c)) := FA
  have HA := hid ((part_top ..).frame HH.out.t0 KA.out (by simp))
  generalize w.alloc (.cells #[.int .i64 ki, .int .i64 co, .int .i64 si, .int .u32 se, .int .u32 nu, .bool on, .int .i64 cd, .slice p l c] 153) = w7 at KA FA HA ⊢
  obtain ⟨R, hR⟩ : ∃ R, R = w.heap.size := ⟨_, rfl⟩
  rw [← hR] at FA ⊢
  have RR := hid (Nat.le_of_eq hR.symm)
  clear hR
  obtain ⟨pv, cv2, rfl, hle⟩ := HA.out.fct.shape
  have L7 := hid HA.out.top
  have R7 := hid HA.out.fct
  have c2 := L7.out.cell 5 (v := .slice pv n cv2) rfl
  have z2 := L7.out.free 5
  have r0 := FA.out.cell 0 rfl
  have r1 := FA.out.cell 1 rfl
  have r2 := FA.out.cell 2 rfl
  have r3 := FA.out.cell 3 rfl
  have r4 := FA.out.cell 4 rfl
  have r5 := FA.out.cell 5 rfl
  have r6 := FA.out.cell 6 rfl
  have r7 := FA.out.cell 7 rfl
  have ka := ((Kept.refl [] w7).drew).alloc (.cells #[.int .i64 ki, .int .i64 co, .int .i64 si, .int .u32 se, .int .u32 nu, .bool on, .int .i64 cd, .slice p l c] 153)
  have T7 := hid (Has.new w7.drew 153 [.int .i64 ki, .int .i64 co, .int .i64 si, .int .u32 se, .int .u32 nu, .bool on, .int .i64 cd, .slice p l c])
  have RT := hid (R7.out.kept ka (by simp))
  have LT := hid (ka.has L7.out (by simp))
  have d2 := LT.out.cell 5 (v := .slice pv n cv2) rfl
  have d3 := (L7.out.alloc (.cells #[.int .i64 ki, .int .i64 co, .int .i64 si, .int .u32 se, .int .u32 nu, .bool on, .int .i64 cd, .slice p l c] 153)).cell 5 (v := .slice pv n cv2) rfl
  have hlg : ∀ g, fa = some g → b ≠ g := fun g hg => by obtain ⟨cs, hh⟩ := R7.out.ty hg; exact Ow.Has.ne L7.out hh (by decide)
  have HLG := hid hlg
  have HLE := hid hle
  have hn := HN.out
  clear hlg hle ka
  go_wp2_with fail
  go_region_law (first
    | (refine step_puts (by rfl) _ _ 79 153 8 72 _ (by rfl) Tryz.underlying79 infoF (by rfl) (by decide) (by decide) fa _ n xs _ _ RT.out T7.out (by rfl) (by intro u hu; simp at hu; rcases hu with rfl | rfl | rfl | rfl | rfl | rfl | rfl | rfl <;> rfl) (by omega) (by rfl) (by rfl) ?_; intro u2 w8 hp; obtain ⟨la2, hla2, hr2⟩ := hp.rows; obtain ⟨pu, cu, hu, hcu⟩ := hr2.shape; subst hu; have R8 := hid (And.intro hla2 hr2); have P8 := hid hp.kept; have HCU := hid hcu; have L8 := hid (hp.kept.has LT.out (by intro hm; simp at hm; exact HLG.out _ hm rfl)); have e0 := L8.out.cell 5 (v := .slice pv n cv2) rfl; have y0 := L8.out.free 5; clear hp hla2 hr2 hcu))
  all_goals (
    have KT := ((((Kept.refl fa.toList w7).drew).alloc (.cells #[.int .i64 ki, .int .i64 co, .int .i64 si, .int .u32 se, .int .u32 nu, .bool on, .int .i64 cd, .slice p l c] 153)).trans P8.out)
    have kl := (Kept.refl [b] w8).set ⟨b, 5, none⟩ (.slice pu (n + 1) cu) (by simp)
    have L9 := hid (L8.out.set 5 (.slice pu (n + 1) cu))
    have C9 := hid ((HA.out.con.kept KT (fun g hg hm => by
      cases hg
      simp at hm
      obtain ⟨c1, q1⟩ := HA.out.con.ty rfl
      obtain ⟨c2, q2⟩ := R7.out.ty hm
      exact Ow.Has.ne q1 q2 (by decide) rfl)).kept kl (fun g hg hm => by
      cases hg
      simp at hm
      obtain ⟨c1, q1⟩ := HA.out.con.ty rfl
      exact Ow.Has.ne q1 L7.out (by decide) hm))
    have F9 := hid (R8.out.2.kept kl (fun g hg hm => by
      simp at hm
      obtain ⟨c1, q1⟩ := R8.out.2.ty hg
      exact Ow.Has.ne q1 L8.out (by decide) hm))
    have K9 := hid (show KG (hand G lab w 0) w (w8.setCell ⟨b, 5, none⟩ (.slice pu (n + 1) cu)) from (KG.nil KA.out).trans ((KG.of KT (fun g hg => own_hand g (HA.out.gf g (by simpa using hg)))).trans (.one kl (own_hand b HA.out.gb))))
    have G9 := hid (show ∀ g, la2 = some g → hand G lab w 0 g from fun g hg => by
      rcases R8.out.1 with e | ⟨g', e, hb⟩
      · exact own_hand g (HA.out.gf g (e ▸ hg))
      · rw [e] at hg; cases hg
        have := KA.out.size
        simp at hb
        exact opn_hand HG.out _ (by omega))
    clear KT kl
    go_end0
    exact ⟨rfl, K9.out, _, _, la2, _, fun i hi => by unfold relab; rw [if_pos hi], HH.out.tops K9.out ⟨L9.out, C9.out, F9.out, own_hand b HA.out.gb, own_hand ca HA.out.gc, G9.out⟩⟩)
theorem Noted.wf {m : Nat} (h : Noted G lab w w' b nh nd mx cv ca cs bb m x) : KG G w w' ∧ WF G w' b nh nd mx cv ca cs bb m x := by
  obtain ⟨k, lab', fv, fa, xs, _, h⟩ := h; exact ⟨kg_hand k, lab', fv, fa, xs, h⟩
theorem note_call (hG : Opn G w) (h : WAt G lab w b nh nd mx cv ca cs bb fv fa n xs x) (hn : n ≤ 1000000) (ki co si se nu : Int) (on : Bool) (cd : Int) (p : Option Addr) (l c : Nat) :
    Calls Tryz.prog 71 #[.pointer (some ⟨b, 0, none⟩), fval ki co si se nu on cd p l c] w fun e w' => e = .returned (.tuple #[]) ∧ KG G w w' ∧ WF G w' b nh nd mx cv ca cs bb (n + 1) x :=
  (note_call2 hG h hn ki co si se nu on cd p l c).mono (fun e w' r => ⟨r.1, r.2.wf⟩)
end WdC
namespace WdC
open Go Go.RowKit Gf Hp Sl Ow Rw TM BagC HostC DevC MemC ValveC EncW UEnc UDecW UnW
variable {G G' : Nat → Prop} {lab : Nat → Nat} {w w' : World} {a j : Nat} {b : Nat} {nh nd : Value} {mx : Int} {cv : Value} {ca : Nat} {cs : List CP} {bb : Nat} {fv : Value} {fa : Option Nat} {n : Nat} {xs : List Value} {x y : Wd}
def NotOf (G : Nat → Prop) (w : World) (lab : Nat → Nat) (a : Nat) (v : Value) : Prop := ∀ b' off n c, v = .slice (some ⟨b', off, none⟩) n c → b' < w.heap.size ∧ ¬ own G lab a b'
theorem frame_ne (u : U) : UEnc.frame u ≠ [] := by intro e; have := frame_len u; rw [e] at this; simp at this; omega
set_option maxRecDepth 100000 in
theorem put4 (hG : Opn G w) (h : WAt G lab w b nh nd mx cv ca cs bb fv fa n xs x) (hn : n ≤ 1000000) (u : U) (hr : URange u) (hl : Law u) (hb : x.bag.length < 4096) (vb : Value) (hs : Bytes w vb (UEnc.frame u)) (hv : NotOf G w lab 1 vb) (kk ss : Int) (h1 : u.kind = 4) :
    Calls Tryz.prog 67 #[.pointer (some ⟨b, 0, none⟩), .int .i64 kk, .int .i64 ss, vb] w fun e w' => e = .returned (.int .i64 (x.bag.length : Nat)) ∧ KG G w w' ∧ ∃ n', n' ≤ n + 1 ∧ WF G w' b nh nd mx cv ca cs bb n' { x with bag := x.bag ++ [u] } := by
  have HH := hid h
  have HG := hid hG
  have HN := hid hn
  have HR := hid hr
  have HL := hid hl
  have HV := hid hv
  have HS := hid hs
  have PC := hid (b_put (opn_hand hG) ((part_bag ..).pre h.bag) u vb hs hr.len hb)
  have c4 := h.t0.top.cell 4 rfl
  have e0 : (u.kind == 4) = true := by simp [h1]
  clear h hG hn hr hl hv hs hb h1
  go_enter Tryz.func67, Tryz.ntmps67
  go_wp2_with fail
  refine PC.out.mono ?_
  rintro e w1 ⟨rfl, k1, h1⟩
  have B1 := hid (k1.bytes HS.out (fun b' off n c e hne hh => by
    obtain ⟨q1, q2⟩ := HV.out b' off n c e
    rcases hh.2 with r | r
    · omega
    · exact q2 ⟨hh.1, r⟩))
  have H1 := hid (HH.out.bags k1 h1)
  have K1 := hid (kg_hand k1)
  clear k1 h1 c4
  go_wp2_with fail
  refine (decode_ok u HR.out HL.out vb w1 B1.out).mono ?_
  rintro e w2 ⟨vd, rfl, k2, m2⟩
  obtain ⟨dp, dc, rfl⟩ := m2.shape
  have H2 := hid (H1.out.nil (k2.alloc (.cells #[.int .i64 u.kind, .int .u32 u.code, .int .u32 u.ses, .int .u32 u.num, .int .i64 u.flags, .slice dp u.data.length dc] 63)))
  have K2 := hid (K1.out.trans (.nil (k2.alloc (.cells #[.int .i64 u.kind, .int .u32 u.code, .int .u32 u.ses, .int .u32 u.num, .int .i64 u.flags, .slice dp u.data.length dc] 63))))
  have U2 := hid (Has.new w2 63 [.int .i64 u.kind, .int .u32 u.code, .int .u32 u.ses, .int .u32 u.num, .int .i64 u.flags, .slice dp u.data.length dc])
  clear k2 m2
  unfold uval
  go_wp2_with fail
  generalize w2.alloc (.cells #[.int .i64 u.kind, .int .u32 u.code, .int .u32 u.ses, .int .u32 u.num, .int .i64 u.flags, .slice dp u.data.length dc] 63) = w3 at H2 K2 U2 ⊢
  have NC := hid (note_call (HG.out.kg K2.out) H2.out HN.out 1 kk ss u.ses u.num false 0 dp u.data.length dc)
  unfold fval at NC
  have y2 := U2.out.cell 2 rfl
  have y3 := U2.out.cell 3 rfl
  have y5 := U2.out.cell 5 rfl
  refine NC.out.mono ?_
  rintro e w4 ⟨rfl, k4, h4⟩
  have K4 := hid (K2.out.trans k4)
  have H4 := hid h4
  clear k4 h4
  go_wp2_with fail
  go_ret
  exact ⟨rfl, K4.out, n + 1, Nat.le_refl _, H4.out⟩
set_option maxRecDepth 100000 in
theorem put20 (hG : Opn G w) (h : WAt G lab w b nh nd mx cv ca cs bb fv fa n xs x) (hn : n ≤ 1000000) (u : U) (hr : URange u) (hl : Law u) (hb : x.bag.length < 4096) (vb : Value) (hs : Bytes w vb (UEnc.frame u)) (hv : NotOf G w lab 1 vb) (kk ss : Int) (h1 : u.kind = 20) :
    Calls Tryz.prog 67 #[.pointer (some ⟨b, 0, none⟩), .int .i64 kk, .int .i64 ss, vb] w fun e w' => e = .returned (.int .i64 (x.bag.length : Nat)) ∧ KG G w w' ∧ ∃ n', n' ≤ n + 1 ∧ WF G w' b nh nd mx cv ca cs bb n' { x with bag := x.bag ++ [u] } := by
  have HH := hid h
  have HG := hid hG
  have HN := hid hn
  have HR := hid hr
  have HL := hid hl
  have HV := hid hv
  have HS := hid hs
  have PC := hid (b_put (opn_hand hG) ((part_bag ..).pre h.bag) u vb hs hr.len hb)
  have c4 := h.t0.top.cell 4 rfl
  have e0 : (u.kind == 4) = false := by simp [h1]
  have e1 : (u.kind == 20) = true := by simp [h1]
  clear h hG hn hr hl hv hs hb h1
  go_enter Tryz.func67, Tryz.ntmps67
  go_wp2_with fail
  refine PC.out.mono ?_
  rintro e w1 ⟨rfl, k1, h1⟩
  have B1 := hid (k1.bytes HS.out (fun b' off n c e hne hh => by
    obtain ⟨q1, q2⟩ := HV.out b' off n c e
    rcases hh.2 with r | r
    · omega
    · exact q2 ⟨hh.1, r⟩))
  have H1 := hid (HH.out.bags k1 h1)
  have K1 := hid (kg_hand k1)
  clear k1 h1 c4
  go_wp2_with fail
  refine (decode_ok u HR.out HL.out vb w1 B1.out).mono ?_
  rintro e w2 ⟨vd, rfl, k2, m2⟩
  obtain ⟨dp, dc, rfl⟩ := m2.shape
  have H2 := hid (H1.out.nil (k2.alloc (.cells #[.int .i64 u.kind, .int .u32 u.code, .int .u32 u.ses, .int .u32 u.num, .int .i64 u.flags, .slice dp u.data.length dc] 63)))
  have K2 := hid (K1.out.trans (.nil (k2.alloc (.cells #[.int .i64 u.kind, .int .u32 u.code, .int .u32 u.ses, .int .u32 u.num, .int .i64 u.flags, .slice dp u.data.length dc] 63))))
  have U2 := hid (Has.new w2 63 [.int .i64 u.kind, .int .u32 u.code, .int .u32 u.ses, .int .u32 u.num, .int .i64 u.flags, .slice dp u.data.length dc])
  clear k2 m2
  unfold uval
  go_wp2_with fail
  generalize w2.alloc (.cells #[.int .i64 u.kind, .int .u32 u.code, .int .u32 u.ses, .int .u32 u.num, .int .i64 u.flags, .slice dp u.data.length dc] 63) = w3 at H2 K2 U2 ⊢
  have NC := hid (note_call (HG.out.kg K2.out) H2.out HN.out 1 kk ss u.ses u.num false 0 dp u.data.length dc)
  unfold fval at NC
  have y2 := U2.out.cell 2 rfl
  have y3 := U2.out.cell 3 rfl
  have y5 := U2.out.cell 5 rfl
  refine NC.out.mono ?_
  rintro e w4 ⟨rfl, k4, h4⟩
  have K4 := hid (K2.out.trans k4)
  have H4 := hid h4
  clear k4 h4
  go_wp2_with fail
  go_ret
  exact ⟨rfl, K4.out, n + 1, Nat.le_refl _, H4.out⟩
set_option maxRecDepth 100000 in
theorem put0 (hG : Opn G w) (h : WAt G lab w b nh nd mx cv ca cs bb fv fa n xs x) (hn : n ≤ 1000000) (u : U) (hr : URange u) (hl : Law u) (hb : x.bag.length < 4096) (vb : Value) (hs : Bytes w vb (UEnc.frame u)) (hv : NotOf G w lab 1 vb) (kk ss : Int) (h1 : u.kind ≠ 4) (h2 : u.kind ≠ 20) :
    Calls Tryz.prog 67 #[.pointer (some ⟨b, 0, none⟩), .int .i64 kk, .int .i64 ss, vb] w fun e w' => e = .returned (.int .i64 (x.bag.length : Nat)) ∧ KG G w w' ∧ ∃ n', n' ≤ n + 1 ∧ WF G w' b nh nd mx cv ca cs bb n' { x with bag := x.bag ++ [u] } := by
  have HH := hid h
  have HG := hid hG
  have HN := hid hn
  have HR := hid hr
  have HL := hid hl
  have HV := hid hv
  have HS := hid hs
  have PC := hid (b_put (opn_hand hG) ((part_bag ..).pre h.bag) u vb hs hr.len hb)
  have c4 := h.t0.top.cell 4 rfl
  have e0 : (u.kind == 4) = false := by simp [h1]
  have e1 : (u.kind == 20) = false := by simp [h2]
  clear h hG hn hr hl hv hs hb h1 h2
  go_enter Tryz.func67, Tryz.ntmps67
  go_wp2_with fail
  refine PC.out.mono ?_
  rintro e w1 ⟨rfl, k1, h1⟩
  have B1 := hid (k1.bytes HS.out (fun b' off n c e hne hh => by
    obtain ⟨q1, q2⟩ := HV.out b' off n c e
    rcases hh.2 with r | r
    · omega
    · exact q2 ⟨hh.1, r⟩))
  have H1 := hid (HH.out.bags k1 h1)
  have K1 := hid (kg_hand k1)
  clear k1 h1 c4
  go_wp2_with fail
  refine (decode_ok u HR.out HL.out vb w1 B1.out).mono ?_
  rintro e w2 ⟨vd, rfl, k2, m2⟩
  obtain ⟨dp, dc, rfl⟩ := m2.shape
  have H2 := hid (H1.out.nil (k2.alloc (.cells #[.int .i64 u.kind, .int .u32 u.code, .int .u32 u.ses, .int .u32 u.num, .int .i64 u.flags, .slice dp u.data.length dc] 63)))
  have K2 := hid (K1.out.trans (.nil (k2.alloc (.cells #[.int .i64 u.kind, .int .u32 u.code, .int .u32 u.ses, .int .u32 u.num, .int .i64 u.flags, .slice dp u.data.length dc] 63))))
  have U2 := hid (Has.new w2 63 [.int .i64 u.kind, .int .u32 u.code, .int .u32 u.ses, .int .u32 u.num, .int .i64 u.flags, .slice dp u.data.length dc])
  clear k2 m2
  unfold uval
  go_wp2_with fail
  go_ret
  exact ⟨rfl, K2.out, n, Nat.le_succ _, _, _, _, _, H2.out⟩
theorem put_call (hG : Opn G w) (h : WAt G lab w b nh nd mx cv ca cs bb fv fa n xs x) (hn : n ≤ 1000000) (u : U) (hr : URange u) (hl : Law u) (hb : x.bag.length < 4096) (vb : Value) (hs : Bytes w vb (UEnc.frame u)) (hv : NotOf G w lab 1 vb) (kk ss : Int) :
    Calls Tryz.prog 67 #[.pointer (some ⟨b, 0, none⟩), .int .i64 kk, .int .i64 ss, vb] w fun e w' => e = .returned (.int .i64 (x.bag.length : Nat)) ∧ KG G w w' ∧ ∃ n', n' ≤ n + 1 ∧ WF G w' b nh nd mx cv ca cs bb n' { x with bag := x.bag ++ [u] } := by
  by_cases h1 : u.kind = 4
  · exact put4 hG h hn u hr hl hb vb hs hv kk ss h1
  by_cases h2 : u.kind = 20
  · exact put20 hG h hn u hr hl hb vb hs hv kk ss h2
  exact put0 hG h hn u hr hl hb vb hs hv kk ss h1 h2
end WdC
namespace WdC
open Go Go.RowKit Gf Hp Sl Ow Rw TM BagC HostC DevC MemC ValveC EncW UEnc UDecW UnW ParW
variable {G G' : Nat → Prop} {lab : Nat → Nat} {w w' : World} {a j : Nat} {b : Nat} {nh nd : Value} {mx : Int} {cv : Value} {ca : Nat} {cs : List CP} {bb : Nat} {fv : Value} {fa : Option Nat} {n : Nat} {xs : List Value} {x y : Wd}
def _root_.Go.Proofs.YtinaliblnihpbaaGreat.TM.Wd.setC (x : Wd) (k : Nat) (c : Cn) : Wd := { x with cs := x.cs.set k c }
theorem setC_len (x : Wd) (k : Nat) (c : Cn) : (x.setC k c).cs.length = x.cs.length := by unfold Wd.setC; simp
theorem setC_at (x : Wd) (k : Nat) (c : Cn) (hk : k < x.cs.length) : (x.setC k c).cn k = c := by
  unfold Wd.setC Wd.cn; rw [List.getD_eq_getElem?_getD, List.getElem?_set_self hk]; rfl
theorem setC_ne (x : Wd) (k i : Nat) (c : Cn) (h : i ≠ k) : (x.setC k c).cn i = x.cn i := by
  unfold Wd.setC Wd.cn; rw [List.getD_eq_getElem?_getD, List.getD_eq_getElem?_getD, List.getElem?_set_ne (Ne.symm h)]
theorem WAt.setH {k : Nat} {p : CP} {h' : H} (h : WAt G lab w b nh nd mx cv ca cs bb fv fa n xs x) (hp : cs[k]? = some p) (kg : KG (hand G lab w (2 + 2 * k)) w w') (hh : hostOf (hand G lab w (2 + 2 * k)) w' p.h h') : WAt G (relab lab w (2 + 2 * k)) w' b nh nd mx cv ca cs bb fv fa n xs (x.setC k { x.cn k with h := h' }) := by
  have hk : k < x.cs.length := by rw [← h.len]; exact (List.getElem?_eq_some_iff.1 hp).1
  refine h.hosts hp kg hh rfl rfl (setC_len ..) (by rw [setC_at _ _ _ hk]) (fun i hi => by rw [setC_ne _ _ _ _ hi]) (fun i => ?_)
  by_cases e : i = k
  · subst e; rw [setC_at _ _ _ hk]
  · rw [setC_ne _ _ _ _ e]
theorem WAt.setD {k : Nat} {p : CP} {d' : D} (h : WAt G lab w b nh nd mx cv ca cs bb fv fa n xs x) (hp : cs[k]? = some p) (kg : KG (hand G lab w (3 + 2 * k)) w w') (hh : DevM (hand G lab w (3 + 2 * k)) w' p.d p.m p.mb d') : WAt G (relab lab w (3 + 2 * k)) w' b nh nd mx cv ca cs bb fv fa n xs (x.setC k { x.cn k with d := d' }) := by
  have hk : k < x.cs.length := by rw [← h.len]; exact (List.getElem?_eq_some_iff.1 hp).1
  refine h.devs hp kg hh rfl rfl (setC_len ..) (by rw [setC_at _ _ _ hk]) (fun i hi => by rw [setC_ne _ _ _ _ hi]) (fun i => ?_)
  by_cases e : i = k
  · subst e; rw [setC_at _ _ _ hk]
  · rw [setC_ne _ _ _ _ e]
theorem notOf_made {w0 w1 : World} {v : Value} {l : List Int} (h : Made w0 w1 v l) (hl : l ≠ []) (a c : Nat) (hne : a ≠ c) : NotOf G w1 (relab lab w0 a) c v := by
  intro b' off m cp e
  subst e
  have h1 := h.1.lt (k := b') rfl
  have h2 := h.2 b' rfl
  refine ⟨h1, fun q => ?_⟩
  have q2 := q.2
  unfold relab at q2
  rw [if_neg (by omega)] at q2
  exact hne q2
theorem H_send_none {z : H} {sig : List Int} (h : z.state = 5) : z.send sig = (z, none, 132) := by unfold H.send; rw [if_pos h]
theorem H_send_some {z : H} {sig : List Int} (h : z.state ≠ 5) : ∃ z' u, z.send sig = (z', some u, 0) := ⟨_, _, by unfold H.send; rw [if_neg h]⟩
set_option maxRecDepth 100000 in
theorem sendN_call {k : Nat} {p : CP} (hG : Opn G w) (h : WAt G lab w b nh nd mx cv ca cs bb fv fa n xs x) (hp : cs[k]? = some p) (hx : HOk (x.cn k).h) (hst : (x.cn k).h.state = 5) :
    Calls Tryz.prog 37 #[.pointer (some ⟨b, 0, none⟩), .int .i64 (k : Int)] w fun e w' => e = .returned (.tuple #[.int .i64 (-1), .int .i64 132]) ∧ KG G w w' ∧ WF G w' b nh nd mx cv ca cs bb n (x.setC k (x.cn k)) := by
  obtain ⟨cap, rfl, hle, hk, c1, c2, c3⟩ := h.at_ hp
  obtain ⟨d1, v1, g1, o1, lg1, k1, s1, hh⟩ := (part_host ..).pre (h.host k p hp)
  have SC := hid (HostC.send_call hx (opn_hand hG) hh)
  rw [H_send_none hst] at SC
  have HH := hid h
  have HG := hid hG
  have HP := hid hp
  have c4 := h.t0.top.cell 3 rfl
  have q3 : (k : Int) < (cs.length : Int) := by omega
  have q4 : (0 : Int) ≤ (k : Int) := by omega
  clear h hh hG hp hx hst c2 c3
  go_enter Tryz.func37, Tryz.ntmps37
  go_wp2_with fail
  refine SC.out.mono ?_
  rintro e w1 ⟨f, rfl, k1, h1, f1⟩
  have H1 := hid (HH.out.setH HP.out k1 ⟨_, _, _, _, _, _, _, h1⟩)
  have K1 := hid (kg_hand k1)
  unfold FrameOf at f1
  simp only at f1
  subst f1
  clear k1 h1
  go_wp2_with fail
  go_ret2
  exact ⟨rfl, K1.out, _, _, _, _, H1.out⟩
set_option maxRecDepth 100000 in
theorem sendY_call {k : Nat} {p : CP} (hG : Opn G w) (h : WAt G lab w b nh nd mx cv ca cs bb fv fa n xs x) (hp : cs[k]? = some p) (hn : n ≤ 1000000) (hb : x.bag.length < 4096) (hx : HOk (x.cn k).h) {z : H} {u : U} (hst : (x.cn k).h.send (sigB (x.cn k).h.p) = (z, some u, 0)) (hr : URange u) (hl : Law u) :
    Calls Tryz.prog 37 #[.pointer (some ⟨b, 0, none⟩), .int .i64 (k : Int)] w fun e w' => e = .returned (.tuple #[.int .i64 (x.bag.length : Nat), .int .i64 0]) ∧ KG G w w' ∧ ∃ n', n' ≤ n + 1 ∧ WF G w' b nh nd mx cv ca cs bb n' { x.setC k { x.cn k with h := z } with bag := x.bag ++ [u] } := by
  obtain ⟨cap, rfl, hle, hk, c1, c2, c3⟩ := h.at_ hp
  obtain ⟨d1, v1, g1, o1, lg1, k1, s1, hh⟩ := (part_host ..).pre (h.host k p hp)
  have SC := hid (HostC.send_call hx (opn_hand hG) hh)
  rw [hst] at SC
  have HH := hid h
  have HG := hid hG
  have HP := hid hp
  have HN := hid (And.intro hn hb)
  have HR := hid (And.intro hr hl)
  have c4 := h.t0.top.cell 3 rfl
  have q3 : (k : Int) < (cs.length : Int) := by omega
  have q4 : (0 : Int) ≤ (k : Int) := by omega
  clear h hh hG hp hx hst hn hb hr hl c2 c3
  go_enter Tryz.func37, Tryz.ntmps37
  go_wp2_with fail
  refine SC.out.mono ?_
  rintro e w1 ⟨f, rfl, k1, h1, f1⟩
  have H1 := hid (HH.out.setH HP.out k1 ⟨_, _, _, _, _, _, _, h1⟩)
  have K1 := hid (kg_hand k1)
  have f1 : Made w w1 f (UEnc.frame u) := f1
  have F1 := hid f1
  have N1 := hid (notOf_made (G := G) (lab := lab) f1 (frame_ne u) (2 + 2 * k) 1 (by omega))
  obtain ⟨p5, n5, rfl⟩ := f1.shape
  clear k1 h1 f1
  go_wp2_with fail
  refine (put_call (HG.out.kg K1.out) H1.out HN.out.1 u HR.out.1 HR.out.2 HN.out.2 _ F1.out.bytes N1.out (k : Int) 1).mono ?_
  rintro e w2 ⟨rfl, k2, n', hn', h2⟩
  have K2 := hid (K1.out.trans k2)
  have H2 := hid h2
  clear k2 h2
  go_wp2_with fail
  go_ret2
  exact ⟨rfl, K2.out, n', hn', H2.out⟩
end WdC
namespace WdC
open Go Go.RowKit Gf SlC Hp Sl Ow Rw TM BagC HostC DevC MemC ValveC EncW UEnc UDecW UnW ParW
variable {G G' : Nat → Prop} {lab : Nat → Nat} {w w' : World} {a j : Nat} {b : Nat} {nh nd : Value} {mx : Int} {cv : Value} {ca : Nat} {cs : List CP} {bb : Nat} {fv : Value} {fa : Option Nat} {n : Nat} {xs : List Value} {x y : Wd} {q m mb : Nat} {d : D} {z : H}
theorem devM_write (hG : Opn G w) (h : DevM G w q m mb d) (hx : DOk d) (vd : Value) (l : List Int) (hd : Bytes w vd l) (hl : l.length ≤ 140737488351232) (hb : Bool) :
    Calls Tryz.prog 65 #[.pointer (some ⟨q, 0, none⟩), vd, .bool hb] w fun e w' => e = .returned (.int .i64 (d.write l hb).2) ∧ KG G w w' ∧ DevM G w' q m mb (d.write l hb).1 := by
  have hl2 := h.lt
  obtain ⟨⟨d1, v, g, o, lg, k, c, s, h⟩, g1, g2⟩ := h
  have hO := devM_opn hG hl2.1 hl2.2
  by_cases h6 : d.state = 6
  · have e : d.write l hb = (d, 70) := by unfold D.write; rw [if_pos h6]
    rw [e]
    exact (DevC.write_down h6 h vd hb).mono (fun e w' r => ⟨r.1, r.2.1.shed (fun i _ p => p.1), r.2.2.dev, g1, g2⟩)
  · exact (DevC.write_call hx h6 hO h vd l hd hl hb).mono (fun e w' r => ⟨r.1, r.2.1.shed (fun i _ p => p.1), r.2.2, g1, g2⟩)
theorem devM_tick (hG : Opn G w) (h : DevM G w q m mb d) (n : Int) (hn : 0 ≤ n) (hn2 : n ≤ 1048576) :
    Calls Tryz.prog 76 #[.pointer (some ⟨q, 0, none⟩), .int .i64 n] w fun e w' => e = .returned (.int .i64 (d.tick n).2) ∧ KG G w w' ∧ DevM G w' q m mb (d.tick n).1 := by
  have hl2 := h.lt
  obtain ⟨⟨d1, v, g, o, lg, k, c, s, h⟩, g1, g2⟩ := h
  have hO := devM_opn hG hl2.1 hl2.2
  by_cases h6 : d.state = 6
  · have e : d.tick n = (d, 70) := by unfold D.tick; rw [if_pos h6]
    rw [e]
    exact (DevC.tick_down h6 h n).mono (fun e w' r => ⟨r.1, r.2.1.shed (fun i _ p => p.1), r.2.2.dev, g1, g2⟩)
  · exact (DevC.tick_call h6 hO h n hn hn2).mono (fun e w' r => ⟨r.1, r.2.1.shed (fun i _ p => p.1), r.2.2.dev, g1, g2⟩)
theorem devM_ack (hG : Opn G w) (h : DevM G w q m mb d) :
    Calls Tryz.prog 78 #[.pointer (some ⟨q, 0, none⟩)] w fun e w' => e = .returned (.int .i64 d.ack.2) ∧ KG G w w' ∧ DevM G w' q m mb d.ack.1 := by
  have hl2 := h.lt
  obtain ⟨⟨d1, v, g, o, lg, k, c, s, h⟩, g1, g2⟩ := h
  have hO := devM_opn hG hl2.1 hl2.2
  by_cases h6 : d.state = 6
  · have e : d.ack = (d, 70) := by unfold D.ack; rw [if_pos h6]
    rw [e]
    exact (DevC.ack_down h6 h).mono (fun e w' r => ⟨r.1, r.2.1.shed (fun i _ p => p.1), r.2.2.dev, g1, g2⟩)
  · exact (DevC.ack_call h6 hO h).mono (fun e w' r => ⟨r.1, r.2.1.shed (fun i _ p => p.1), r.2.2, g1, g2⟩)
theorem devM_reset (hG : Opn G w) (h : DevM G w q m mb d) (hx : DOk d) (n : Int) (hn : 0 ≤ n) (hn2 : n < 9223372036854775808) :
    Calls Tryz.prog 79 #[.pointer (some ⟨q, 0, none⟩), .int .i64 n] w fun e w' => e = .returned (.int .i64 (d.reset n).2) ∧ KG G w w' ∧ DevM G w' q m mb (d.reset n).1 := by
  have hl2 := h.lt
  obtain ⟨⟨d1, v, g, o, lg, k, c, s, h⟩, g1, g2⟩ := h
  have hO := devM_opn hG hl2.1 hl2.2
  exact (DevC.reset_call hx n hn hn2 hO h).mono (fun e w' r => ⟨r.1, devM_kg g1 g2 r.2.1, r.2.2, g1, g2⟩)
theorem devM_receive (hG : Opn G w) (h : DevM G w q m mb d) (hx : DOk d) (u : U) (hr : URange u) (hl : Law u) (vb : Value) (hs : Bytes w vb (UEnc.frame u)) :
    Calls Tryz.prog 70 #[.pointer (some ⟨q, 0, none⟩), vb] w fun e w' => ∃ f, e = .returned (.tuple #[f, .int .i64 (d.receive (sigB d.p) u 0).2.2]) ∧ KG G w w' ∧ DevM G w' q m mb (d.receive (sigB d.p) u 0).1 ∧ FrameOf w w' f (d.receive (sigB d.p) u 0).2.1 := by
  have hl2 := h.lt
  obtain ⟨⟨d1, v, g, o, lg, k, c, s, h⟩, g1, g2⟩ := h
  have hO := devM_opn hG hl2.1 hl2.2
  exact (DevC.receive_call hx hO h u hr hl vb hs).mono (fun e w' ⟨f, r1, r2, r3, r4⟩ => ⟨f, r1, devM_kg g1 g2 r2, ⟨r3, g1, g2⟩, r4⟩)
theorem devM_bad (hG : Opn G w) (h : DevM G w q m mb d) (hx : DOk d) (vb : Value) (L : List Int) (hs : Bytes w vb L) (hb : By L) (l1 : 19 ≤ L.length) (l2 : L.length ≤ 27) (hc : crc L ≠ 0) :
    Calls Tryz.prog 70 #[.pointer (some ⟨q, 0, none⟩), vb] w fun e w' => ∃ f, e = .returned (.tuple #[f, .int .i64 (d.receive (sigB d.p) U.zero 42).2.2]) ∧ KG G w w' ∧ DevM G w' q m mb (d.receive (sigB d.p) U.zero 42).1 ∧ FrameOf w w' f (d.receive (sigB d.p) U.zero 42).2.1 := by
  have hl2 := h.lt
  obtain ⟨⟨d1, v, g, o, lg, k, c, s, h⟩, g1, g2⟩ := h
  have hO := devM_opn hG hl2.1 hl2.2
  exact (DevC.receive_bad hx hO h vb L hs hb l1 l2 hc).mono (fun e w' ⟨f, r1, r2, r3, r4⟩ => ⟨f, r1, devM_kg g1 g2 r2, ⟨r3, g1, g2⟩, r4⟩)
theorem devM_see (h : DevM G w q m mb d) (hv : 1 ≤ d.v.n ∧ d.v.n ≤ 8) :
    Calls Tryz.prog 44 #[.pointer (some ⟨q, 0, none⟩)] w fun e w' => ∃ s', e = .returned (eval' d.see s') ∧ Kept [] w w' ∧ Outs w w' s' d.v.out := by
  obtain ⟨⟨d1, v, g, o, lg, k, c, s, h⟩, g1, g2⟩ := h
  exact DevC.see_call hv.1 hv.2 h
theorem devM_arm (h : DevM G w q m mb d) (n : Int) (hn : 0 ≤ n) (hn2 : n < 9223372036854775808) :
    Calls Tryz.prog 41 #[.pointer (some ⟨m, 0, none⟩), .int .i64 n] w fun e w' => e = .returned (.int .i64 0) ∧ KG G w w' ∧ DevM G w' q m mb { d with m := d.m.arm n } := by
  obtain ⟨⟨d1, v, g, o, lg, k, c, s, h⟩, g1, g2⟩ := h
  exact (MemC.arm_call m mb d.m n hn hn2 w h.mem).mono (fun e w' ⟨r1, r2, r3⟩ => ⟨r1, .one r2 g1, (h.memo (r2.mono (by simp)) r3).dev, g1, g2⟩)
theorem host_write (hG : Opn G w) (h : hostOf G w q z) (hx : HOk z) (vd : Value) (l : List Int) (hd : Bytes w vd l) (hl : l.length ≤ 140737488351232) (hb : Bool) :
    Calls Tryz.prog 64 #[.pointer (some ⟨q, 0, none⟩), vd, .bool hb] w fun e w' => e = .returned (.int .i64 (z.write l hb).2) ∧ KG G w w' ∧ hostOf G w' q (z.write l hb).1 := by
  obtain ⟨d1, v, g, o, lg, k, s, h⟩ := h
  exact HostC.write_call hx hG h vd l hd hl hb
theorem host_tick (hG : Opn G w) (h : hostOf G w q z) (n : Int) (hn : 0 ≤ n) (hn2 : n ≤ 1048576) :
    Calls Tryz.prog 75 #[.pointer (some ⟨q, 0, none⟩), .int .i64 n] w fun e w' => e = .returned (.int .i64 0) ∧ KG G w w' ∧ hostOf G w' q (z.tick n) := by
  obtain ⟨d1, v, g, o, lg, k, s, h⟩ := h
  exact (HostC.tick_call hG h n hn hn2).mono (fun e w' r => ⟨r.1, r.2.1, _, _, _, _, _, _, _, r.2.2⟩)
theorem host_ack (hG : Opn G w) (h : hostOf G w q z) :
    Calls Tryz.prog 77 #[.pointer (some ⟨q, 0, none⟩)] w fun e w' => e = .returned (.int .i64 z.ack.2) ∧ KG G w w' ∧ hostOf G w' q z.ack.1 := by
  obtain ⟨d1, v, g, o, lg, k, s, h⟩ := h
  exact HostC.ack_call hG h
theorem host_reset (hG : Opn G w) (h : hostOf G w q z) (hx : HOk z) :
    Calls Tryz.prog 60 #[.pointer (some ⟨q, 0, none⟩)] w fun e w' => e = .returned (.int .i64 0) ∧ KG G w w' ∧ hostOf G w' q (H.new z.p) := by
  obtain ⟨d1, v, g, o, lg, k, s, h⟩ := h
  exact HostC.reset_call hx hG h
theorem host_receive (hG : Opn G w) (h : hostOf G w q z) (hx : HOk z) (u : U) (hr : URange u) (hl : Law u) (vb : Value) (hs : Bytes w vb (UEnc.frame u)) :
    Calls Tryz.prog 68 #[.pointer (some ⟨q, 0, none⟩), vb] w fun e w' => e = .returned (.int .i64 (z.receive (sigB z.p) u 0).2) ∧ KG G w w' ∧ hostOf G w' q (z.receive (sigB z.p) u 0).1 := by
  obtain ⟨d1, v, g, o, lg, k, s, h⟩ := h
  exact (HostC.receive_call hx hG h u hr hl vb hs).mono (fun e w' r => ⟨r.1, r.2.1, _, _, _, _, _, _, _, r.2.2⟩)
theorem host_bad (hG : Opn G w) (h : hostOf G w q z) (hx : HOk z) (vb : Value) (L : List Int) (hs : Bytes w vb L) (hb : By L) (l1 : 19 ≤ L.length) (l2 : L.length ≤ 27) (hc : crc L ≠ 0) :
    Calls Tryz.prog 68 #[.pointer (some ⟨q, 0, none⟩), vb] w fun e w' => e = .returned (.int .i64 42) ∧ KG G w w' ∧ hostOf G w' q z := by
  obtain ⟨d1, v, g, o, lg, k, s, h⟩ := h
  exact (HostC.receive_bad hx hG h vb L hs hb l1 l2 hc).mono (fun e w' r => ⟨r.1, r.2.1, _, _, _, _, _, _, _, r.2.2⟩)
theorem host_see (h : hostOf G w q z) (hv : 1 ≤ z.v.n ∧ z.v.n ≤ 8) :
    Calls Tryz.prog 43 #[.pointer (some ⟨q, 0, none⟩)] w fun e w' => ∃ s', e = .returned (eval' z.see s') ∧ Kept [] w w' ∧ Outs w w' s' z.v.out := by
  obtain ⟨d1, v, g, o, lg, k, s, h⟩ := h
  exact HostC.see_call hv.1 hv.2 h
def connV (p : CP) : Value := .agg #[.pointer (some ⟨p.h, 0, none⟩), .pointer (some ⟨p.d, 0, none⟩), .pointer (some ⟨p.m, 0, none⟩)]
def mcs (m : Mv) (dp : Option Addr) (dl dc : Nat) : List Value := [.int .i64 m.kind, .int .i64 m.conn, .int .i64 m.side, .int .i64 m.frame, .int .i64 m.at', .int .u32 m.word, .int .i64 m.n, .bool m.hold, .slice dp dl dc]
def mvV (m : Mv) (dp : Option Addr) (dl dc : Nat) : Value := .agg #[.int .i64 m.kind, .int .i64 m.conn, .int .i64 m.side, .int .i64 m.frame, .int .i64 m.at', .int .u32 m.word, .int .i64 m.n, .bool m.hold, .slice dp dl dc]
set_option maxRecDepth 100000 in
theorem writeH_call {k : Nat} {p : CP} (hG : Opn G w) (h : WAt G lab w b nh nd mx cv ca cs bb fv fa n xs x) (hp : cs[k]? = some p) (hx : HOk (x.cn k).h) (mv : Mv) (dp : Option Addr) (dc : Nat) (hd : Bytes w (.slice dp mv.data.length dc) mv.data) (hl : mv.data.length ≤ 140737488351232) (hs : mv.side = 1) :
    Calls Tryz.prog 36 #[connV p, mvV mv dp mv.data.length dc] w fun e w' => e = .returned (.int .i64 ((x.cn k).h.write mv.data mv.hold).2) ∧ KG G w w' ∧ WF G w' b nh nd mx cv ca cs bb n (x.setC k { x.cn k with h := ((x.cn k).h.write mv.data mv.hold).1 }) := by
  have HH := hid h
  have HG := hid hG
  have HP := hid hp
  have HX := hid hx
  have HD := hid hd
  have HL := hid hl
  have e1 : (mv.side == 1) = true := by simp [hs]
  clear h hG hp hx hd hl hs
  unfold connV mvV
  go_enter Tryz.func36, Tryz.ntmps36
  go_wp2_with fail
  have K0 := hid (((Kept.refl [] w).alloc (.cells #[.pointer (some ⟨p.h, 0, none⟩), .pointer (some ⟨p.d, 0, none⟩), .pointer (some ⟨p.m, 0, none⟩)] 92)).alloc (.cells #[.int .i64 mv.kind, .int .i64 mv.conn, .int .i64 mv.side, .int .i64 mv.frame, .int .i64 mv.at', .int .u32 mv.word, .int .i64 mv.n, .bool mv.hold, .slice dp mv.data.length dc] 38))
  generalize ((w.alloc (.cells #[.pointer (some ⟨p.h, 0, none⟩), .pointer (some ⟨p.d, 0, none⟩), .pointer (some ⟨p.m, 0, none⟩)] 92)).alloc (.cells #[.int .i64 mv.kind, .int .i64 mv.conn, .int .i64 mv.side, .int .i64 mv.frame, .int .i64 mv.at', .int .u32 mv.word, .int .i64 mv.n, .bool mv.hold, .slice dp mv.data.length dc] 38)) = w0 at K0 ⊢
  have H0 := hid (HH.out.nil K0.out)
  have G0 := hid (HG.out.step K0.out.size)
  refine (host_write (opn_hand (lab := lab) (a := 2 + 2 * k) G0.out) ((part_host ..).pre (H0.out.host k p HP.out)) HX.out _ mv.data (HD.out.kept K0.out (by simp)) HL.out mv.hold).mono ?_
  rintro e w1 ⟨rfl, k1, h1⟩
  have H1 := hid (H0.out.setH HP.out k1 h1)
  have K1 := hid ((KG.nil K0.out).trans (kg_hand k1))
  clear k1 h1
  go_wp2_with fail
  go_ret
  exact ⟨rfl, K1.out, _, _, _, _, H1.out⟩
set_option maxRecDepth 100000 in
theorem writeD_call {k : Nat} {p : CP} (hG : Opn G w) (h : WAt G lab w b nh nd mx cv ca cs bb fv fa n xs x) (hp : cs[k]? = some p) (hx : DOk (x.cn k).d) (mv : Mv) (dp : Option Addr) (dc : Nat) (hd : Bytes w (.slice dp mv.data.length dc) mv.data) (hl : mv.data.length ≤ 140737488351232) (hs : mv.side ≠ 1) :
    Calls Tryz.prog 36 #[connV p, mvV mv dp mv.data.length dc] w fun e w' => e = .returned (.int .i64 ((x.cn k).d.write mv.data mv.hold).2) ∧ KG G w w' ∧ WF G w' b nh nd mx cv ca cs bb n (x.setC k { x.cn k with d := ((x.cn k).d.write mv.data mv.hold).1 }) := by
  have HH := hid h
  have HG := hid hG
  have HP := hid hp
  have HX := hid hx
  have HD := hid hd
  have HL := hid hl
  have e1 : (mv.side == 1) = false := by simp [hs]
  clear h hG hp hx hd hl hs
  unfold connV mvV
  go_enter Tryz.func36, Tryz.ntmps36
  go_wp2_with fail
  have K0 := hid (((Kept.refl [] w).alloc (.cells #[.pointer (some ⟨p.h, 0, none⟩), .pointer (some ⟨p.d, 0, none⟩), .pointer (some ⟨p.m, 0, none⟩)] 92)).alloc (.cells #[.int .i64 mv.kind, .int .i64 mv.conn, .int .i64 mv.side, .int .i64 mv.frame, .int .i64 mv.at', .int .u32 mv.word, .int .i64 mv.n, .bool mv.hold, .slice dp mv.data.length dc] 38))
  generalize ((w.alloc (.cells #[.pointer (some ⟨p.h, 0, none⟩), .pointer (some ⟨p.d, 0, none⟩), .pointer (some ⟨p.m, 0, none⟩)] 92)).alloc (.cells #[.int .i64 mv.kind, .int .i64 mv.conn, .int .i64 mv.side, .int .i64 mv.frame, .int .i64 mv.at', .int .u32 mv.word, .int .i64 mv.n, .bool mv.hold, .slice dp mv.data.length dc] 38)) = w0 at K0 ⊢
  have H0 := hid (HH.out.nil K0.out)
  have G0 := hid (HG.out.step K0.out.size)
  refine (devM_write (opn_hand (lab := lab) (a := 3 + 2 * k) G0.out) ((part_dev ..).pre (H0.out.dev k p HP.out)) HX.out _ mv.data (HD.out.kept K0.out (by simp)) HL.out mv.hold).mono ?_
  rintro e w1 ⟨rfl, k1, h1⟩
  have H1 := hid (H0.out.setD HP.out k1 h1)
  have K1 := hid ((KG.nil K0.out).trans (kg_hand k1))
  clear k1 h1
  go_wp2_with fail
  go_ret
  exact ⟨rfl, K1.out, _, _, _, _, H1.out⟩
end WdC
end Go.Proofs.YtinaliblnihpbaaGreat
