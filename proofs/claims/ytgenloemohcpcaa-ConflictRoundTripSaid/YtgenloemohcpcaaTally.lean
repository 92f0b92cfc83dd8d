/- Words for the last part of Merge: counts with signs; two rows that grow. -/
import Derived.Test.YtgenloemohcpcaaIter
import Derived.Test.YtgenloemohcpcaaAdd
namespace Go.Proofs.Ytgenloemohcpcaa
open Go.RowKit Go.Maps

/-- Counts with signs. -/
def cs (P : List (List T × Int)) (x : T) : Int := (P.map fun p => p.2 * (p.1.count x : Int)).sum

theorem cs_snoc (P : List (List T × Int)) (L : List T) (s : Int) (x : T) : cs (P ++ [(L, s)]) x = cs P x + s * L.count x := by simp [cs]

def lens (P : List (List T × Int)) : Nat := (P.map fun p => p.1.length).sum

theorem cs_le (P : List (List T × Int)) (hP : ∀ p ∈ P, p.2 = 1 ∨ p.2 = -1) (x : T) : -(lens P : Int) ≤ cs P x ∧ cs P x ≤ lens P := by
  induction P with
  | nil => simp [cs, lens]
  | cons p P ih =>
    have h := ih (fun q hq => hP q (by simp [hq]))
    have hc : p.1.count x ≤ p.1.length := List.count_le_length
    have e1 : cs (p :: P) x = p.2 * p.1.count x + cs P x := by simp [cs]
    have e2 : (lens (p :: P) : Int) = p.1.length + lens P := by simp [lens]
    rw [e1, e2]
    rcases hP p (by simp) with e | e <;> rw [e] <;> omega

theorem tally2 (P : List (List T × Int)) (A : Option Addr) (c : Nat) (L : List T) (sign : Int) (bc bm n : Nat) (w : World) (hA : RD w A L) (hl : L.length ≤ 10000) (hs : sign = 1 ∨ sign = -1)
    (ht : ∀ x ∈ L, x.length ≤ 65536) (hcell : w.cell? ⟨bc, 0, none⟩ = some (.map (some bm))) (hmap : MapSt w bm n (cs P)) (hn : n ≤ 100000) (hP : ∀ p ∈ P, p.2 = 1 ∨ p.2 = -1) (hlen : lens P ≤ 100000) :
    Calls Try.prog 30 #[.slice A L.length c, .int .i64 sign, .pointer (some ⟨bc, 0, none⟩)] w (ClPost w bm (n + L.length) (cs (P ++ [(L, sign)]))) := by
  refine (tally_any A c L sign bc bm n (cs P) w hA hl hs ht hcell hmap hn (fun x => by have := cs_le P hP x; omega)).mono ?_
  rintro e w' ⟨he, ⟨D, ho, hD⟩, hg⟩
  exact ⟨he, ⟨D, ho, hD.cong fun x => (cs_snoc P L sign x).symm⟩, hg⟩

theorem mapst_start (w : World) : MapSt (w.alloc (.map #[] 0)) w.heap.size 0 (cs []) := ⟨.map [], World.ownsMap_made _ _ _ _, MD.start.cong fun x => by simp [cs]⟩
theorem MapSt.alloc {w : World} {bm n : Nat} {cnt : T → Int} (h : MapSt w bm n cnt) (o : Obj) : MapSt (w.alloc o) bm n cnt := let ⟨D, ho, hD⟩ := h; ⟨D, ho.alloc o, hD⟩
theorem MapSt.kept {w w' : World} {bm n : Nat} {cnt : T → Int} {row : Option Nat} (h : MapSt w bm n cnt) (hg : w.grownBy w' row) (hne : some bm ≠ row) : MapSt w' bm n cnt := let ⟨D, ho, hD⟩ := h; ⟨D, ho.kept hg hne, hD⟩
theorem MapSt.lt {w : World} {bm n : Nat} {cnt : T → Int} (h : MapSt w bm n cnt) : bm < w.heap.size := let ⟨_, ho, _⟩ := h; ho.lt

theorem grown_below {w w' : World} {g : Nat} (h : w.grownBy w' (some g)) : Below g w w' ∨ w.heap.size ≤ g := by
  rcases Nat.lt_or_ge g w.heap.size with hg | hg
  · exact .inl ⟨h.os, h.tape, h.output, h.size, fun k hk => h.block k (by omega) (by simp; omega)⟩
  · exact .inr hg
theorem grown_to {B : Nat} {w0 w w' : World} {g : Nat} (hb : Below B w0 w) (hg : w.grownBy w' (some g)) (hB : B ≤ g) (hs : B ≤ w.heap.size) : Below B w0 w' :=
  hb.grown hg hs fun k hk => by cases hk; exact hB

theorem OT.form2 {w : World} {base : Nat} {v : Value} {L : List T} (h : OT w base v L) : ∃ A c, v = .slice A L.length c ∧ L.length ≤ c ∧ RD w A L ∧ ∀ a, A = some a → base ≤ a.block := by
  obtain ⟨A, c, rfl, hc, hr, _⟩ := h.form
  refine ⟨A, c, rfl, hc, hr, fun a ha => ?_⟩
  subst ha
  exact (World.ownsRow.lt h a.block rfl).1

/-- append of texts, the new value written out. -/
theorem wpList_app2 (w : World) {ops : Array Oper} {rest : List Oper} {o : Oper} {a : Act} {Q : Exit → Act → World → Prop} (hgd : o.guard = none) (s x : Operand)
    (ho : o.op = .call { callee := .builtin .append, args := #[s, x], argTypes := #[22, 22] }) (base : Nat) {v : Value} {L : List T} (hs : a.eval s = v) (hown : OT w base v L)
    {A : Option Addr} {M : List T} {m c : Nat} (hm : M.length = m) (hx : a.eval x = .slice A m c) (hr : RD w A M) (hsz : L.length + M.length ≤ 1000000) (hb : base ≤ w.heap.size)
    (h : ∀ A' c' w', OT w' base (.slice A' (L ++ M).length c') (L ++ M) → w.grownBy w' v.ownBlock → ((Value.slice A' (L ++ M).length c').ownBlock = v.ownBlock ∨ (Value.slice A' (L ++ M).length c').ownBlock = some w.heap.size) →
      wpList Try.prog ops Q rest (a.put o.dst (.slice A' (L ++ M).length c')) w') : wpList Try.prog ops Q (o :: rest) a w :=
  wpList_app w hgd s x ho base hs hown hm hx hr hsz hb fun v' w' h1 h2 h3 => by
    obtain ⟨A', c', rfl, _, _, _⟩ := h1.form
    exact h A' c' w' h1 h2 h3

/-- The sum that Merge writes: it lies in block g; its two rows are the call's own and lie apart. -/
structure MS (W0 w : World) (g : Nat) (PA PR : List T) (A : Option Addr) (c : Nat) (B : Option Addr) (d : Nat) : Prop where
  bk : BK w g (.slice A PA.length c) (.slice B PR.length d)
  oa : OT w W0.heap.size (.slice A PA.length c) PA
  ob : OT w W0.heap.size (.slice B PR.length d) PR
  ap : (Value.slice A PA.length c).ownBlock = none ∨ (Value.slice A PA.length c).ownBlock ≠ (Value.slice B PR.length d).ownBlock
  gr : W0.grownBy w (some g)
  lt : g < W0.heap.size

theorem only_set {a w : World} {g : Nat} (h : a.grownBy w (some g)) (i : Nat) (u : Value) : a.grownBy (w.setCell ⟨g, i, none⟩ u) (some g) :=
  ⟨h.os, h.tape, h.output, by simpa [World.setCell] using h.size, fun k hk hne => (Below.heap_setCell w ⟨g, i, none⟩ u k (by rintro rfl; exact hne rfl)).trans (h.block k hk hne)⟩

theorem ot_set {w : World} {base g i : Nat} {v u : Value} {L : List T} (h : OT w base v L) (hg : g < base) : OT (w.setCell ⟨g, i, none⟩ u) base v L := ownsRow_setCell_below h hg u

theorem MS.addA {W0 w w1 : World} {g : Nat} {PA PR N : List T} {A B A' : Option Addr} {c d c' : Nat} (h : MS W0 w g PA PR A c B d) (o : Obj) (hN : OT w1 W0.heap.size (.slice A' N.length c') N)
    (hg : (w.alloc o).grownBy w1 (Value.slice A PA.length c).ownBlock) (hl : (Value.slice A' N.length c').ownBlock = (Value.slice A PA.length c).ownBlock ∨ (Value.slice A' N.length c').ownBlock = some (w.alloc o).heap.size) :
    MS W0 (w1.setCell ⟨g, 0, none⟩ (.slice A' N.length c')) g N PR A' c' B d := by
  have hw : W0.heap.size ≤ w.heap.size := h.gr.size
  have hown := fun k hk => World.ownsRow.lt h.oa k hk
  have hne : some g ≠ (Value.slice A PA.length c).ownBlock := fun e => by have := (hown g e.symm).1; have := h.lt; omega
  have hneB : (Value.slice B PR.length d).ownBlock = none ∨ (Value.slice B PR.length d).ownBlock ≠ (Value.slice A PA.length c).ownBlock := by
    rcases h.ap with e | e
    · rcases hb : (Value.slice B PR.length d).ownBlock with _ | k
      · exact .inl rfl
      · right; rw [e]; simp
    · exact .inr (Ne.symm e)
  have bk1 : BK w1 g (.slice A PA.length c) (.slice B PR.length d) := (hg.block g (by have := h.lt; simp; omega) hne).trans (h.bk.alloc o)
  have ob1 : OT w1 W0.heap.size (.slice B PR.length d) PR := (h.ob.alloc o).kept hg hneB
  have gr1 : W0.grownBy w1 (some g) := by
    refine ⟨hg.os.trans h.gr.os, hg.tape.trans h.gr.tape, hg.output.trans h.gr.output, Nat.le_trans hw (Nat.le_trans (by simp) hg.size), fun k hk hne' => ?_⟩
    have e1 : some k ≠ (Value.slice A PA.length c).ownBlock := fun e => by have := (hown k e.symm).1; omega
    exact (hg.block k (by simp; omega) e1).trans ((Below.heap_alloc w o k (by omega)).trans (h.gr.block k hk hne'))
  refine ⟨bk1.set0 _, ot_set hN h.lt, ot_set ob1 h.lt, ?_, only_set gr1 _ _, h.lt⟩
  rcases hl with e | e
  · rw [e]; exact h.ap
  · right
    rw [e]
    intro e'
    have := (World.ownsRow.lt h.ob _ e'.symm).2
    simp at this
    omega

theorem MS.addR {W0 w w1 : World} {g : Nat} {PA PR N : List T} {A B A' : Option Addr} {c d c' : Nat} (h : MS W0 w g PA PR A c B d) (o : Obj) (hN : OT w1 W0.heap.size (.slice A' N.length c') N)
    (hg : (w.alloc o).grownBy w1 (Value.slice B PR.length d).ownBlock) (hl : (Value.slice A' N.length c').ownBlock = (Value.slice B PR.length d).ownBlock ∨ (Value.slice A' N.length c').ownBlock = some (w.alloc o).heap.size) :
    MS W0 (w1.setCell ⟨g, 1, none⟩ (.slice A' N.length c')) g PA N A c A' c' := by
  have hw : W0.heap.size ≤ w.heap.size := h.gr.size
  have hown := fun k hk => World.ownsRow.lt h.ob k hk
  have hne : some g ≠ (Value.slice B PR.length d).ownBlock := fun e => by have := (hown g e.symm).1; have := h.lt; omega
  have bk1 : BK w1 g (.slice A PA.length c) (.slice B PR.length d) := (hg.block g (by have := h.lt; simp; omega) hne).trans (h.bk.alloc o)
  have oa1 : OT w1 W0.heap.size (.slice A PA.length c) PA := (h.oa.alloc o).kept hg h.ap
  have gr1 : W0.grownBy w1 (some g) := by
    refine ⟨hg.os.trans h.gr.os, hg.tape.trans h.gr.tape, hg.output.trans h.gr.output, Nat.le_trans hw (Nat.le_trans (by simp) hg.size), fun k hk hne' => ?_⟩
    have e1 : some k ≠ (Value.slice B PR.length d).ownBlock := fun e => by have := (hown k e.symm).1; omega
    exact (hg.block k (by simp; omega) e1).trans ((Below.heap_alloc w o k (by omega)).trans (h.gr.block k hk hne'))
  refine ⟨bk1.set1 _, ot_set oa1 h.lt, ot_set hN h.lt, ?_, only_set gr1 _ _, h.lt⟩
  rcases hl with e | e
  · rw [e]; exact h.ap
  · right
    rw [e]
    intro e'
    have := (World.ownsRow.lt h.oa _ e').2
    simp at this
    omega
end Go.Proofs.Ytgenloemohcpcaa
