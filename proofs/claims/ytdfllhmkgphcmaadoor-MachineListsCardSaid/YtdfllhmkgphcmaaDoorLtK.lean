/- Memory: a row is copied; values in memory; goals are set. -/
import Derived.Test.YtdfllhmkgphcmaaDoorLtR
import Derived.Test.YtdfllhmkgphcmaaDoorLtL
namespace Go.Proofs.YtdfllhmkgphcmaaDoor
open Go.RowKit

/-- A row is copied into a new one. -/
theorem wpList_appN {w V W : World} {ops : Array Oper} {rest : List Oper} {o : Oper} {a : Act} {Q : Exit → Act → World → Prop} (hgd : o.guard = none) (s x : Operand)
    (ho : o.op = .call { callee := .builtin .append, args := #[s, x], argTypes := #[41, 41] }) {L : List Ins} {g m c : Nat} (hW : W = V.alloc (.cells #[] 45)) (hown : CR w L (.slice (some ⟨g, 0, none⟩) m c) V) (hm : L.length = m) (hs : a.eval s = .slice (some ⟨V.heap.size, 0, none⟩) 0 0)
    (hx : a.eval x = .slice (some ⟨g, 0, none⟩) m c) (hsz : m ≤ 1000000)
    (h : ∀ v' w', CR w L v' w' → CR w L (.slice (some ⟨g, 0, none⟩) m c) w' → (∀ k, v'.ownBlock = some k → V.heap.size ≤ k) → wpList Tryd.prog ops Q rest (a.put o.dst v') w') : wpList Tryd.prog ops Q (o :: rest) a W := by
  subst hW
  subst hm
  have hb := hown.gr.size
  have o1 : OR 45 4 Ins.cs (V.alloc (.cells #[] 45)) w.heap.size (.slice (some ⟨V.heap.size, 0, none⟩) 0 0) ([] : List Ins) := OR.empty hb
  have o2 := hown.grow (World.grownBy_alloc V (.cells #[] 45) none)
  have lt := (hown.o.lt g rfl).2
  refine wpList_appI _ hgd s x ho w.heap.size hs o1 rfl hx o2.rd (by simp) (by simpa using hsz) (by simp; omega) fun v' w' h1 h2 h3 => ?_
  refine h v' w' ⟨by simpa using h1, OR.gr (hown.gr.trans (World.grownBy_alloc V _ none)) o1 (Nat.le_refl _) h2⟩ ⟨o2.o.kept h2 (.inr ?_), OR.gr (hown.gr.trans (World.grownBy_alloc V _ none)) o1 (Nat.le_refl _) h2⟩ fun k hk => ?_
  · simp only [Value.ownBlock, ne_eq, Option.some.injEq]; omega
  · rcases h3 with h3 | h3
    · rw [h3] at hk; simp [Value.ownBlock] at hk; omega
    · rw [h3] at hk; simp at hk; omega
/-- An append beside another row. -/
theorem wpList_appD {w V W : World} {ops : Array Oper} {rest : List Oper} {o : Oper} {a : Act} {Q : Exit → Act → World → Prop} (hgd : o.guard = none) (s x : Operand)
    (ho : o.op = .call { callee := .builtin .append, args := #[s, x], argTypes := #[41, 41] }) {v u : Value} {L L2 : List Ins} {cs : Array Value} (hW : W = V.alloc (.cells cs 45)) (hown : CR w L v V) (hs : a.eval s = v) (h2 : CR w L2 u V) (hne : u.ownBlock ≠ v.ownBlock)
    (M : List Ins) {m : Nat} (hm : M.length = m) (hx : a.eval x = .slice (some ⟨V.heap.size, 0, none⟩) m m) (hM : cs = (M.flatMap Ins.cs).toArray) (hsz : L.length + M.length ≤ 1000000)
    (h : ∀ v' w', CR w (L ++ M) v' w' → CR w L2 u w' → wpList Tryd.prog ops Q rest (a.put o.dst v') w') : wpList Tryd.prog ops Q (o :: rest) a W := by
  subst hW
  refine wpList_appI _ hgd s x ho w.heap.size hs (hown.o.alloc _) hm hx (ri_new V M hM) (by simp) hsz (by have := hown.gr.size; simp; omega) fun v' w' h1 h3 _ => ?_
  have g := OR.gr (hown.gr.trans (World.grownBy_alloc V _ none)) (hown.o.alloc _) (Nat.le_refl _) h3
  exact h v' w' ⟨h1, g⟩ ⟨(h2.o.alloc _).kept h3 (.inr hne), g⟩
/-- An integer in a list of values. -/
theorem LRd.num {B : Nat} {tag : Nat → Tag} {w : World} {A : Option Addr} {c : Nat} {S : List AV} (h : LRd B tag w A c S) {j : Nat} {z : Int} (hj : (ers S)[j]? = some (vInt z)) : ∃ a a1, A = Option.some a ∧ a.add (j * 8) = a1 ∧ a1.block < w.heap.size ∧ w.cell? a1 = Option.some (iv 1) ∧ w.cell? ⟨a1.block, a1.off + 1, none⟩ = Option.some (iv z) := by
  rw [ers_map, List.getElem?_map] at hj
  cases hx : S[j]? with
  | none => rw [hx] at hj; simp at hj
  | some x =>
    rw [hx] at hj
    obtain ⟨k1, k2⟩ := er_vInt (show x.er = vInt z by simpa using hj)
    have hA : A ≠ none := by
      intro e
      have h1 := h.h0 e
      have h2 := h.hc
      have h3 := (List.getElem?_eq_some_iff.1 hx).1
      omega
    obtain ⟨a, rfl⟩ : ∃ a, A = some a := by
      cases A with
      | none => exact absurd rfl hA
      | some a => exact ⟨a, rfl⟩
    refine ⟨a, _, rfl, rfl, by rw [add_block]; exact h.hb a rfl, ?_, ?_⟩
    · have := (h.hx a rfl j x hx 0 (iv x.kind) rfl).1
      rw [k1] at this
      exact this
    · have := (h.hx a rfl j x hx 1 (iv x.int) rfl).1
      rw [k2, ← add_add', fld_add _ 1 (by omega)] at this
      exact this
theorem er_vList {x : AV} {l : List MV} (h : x.er = vList l) : x.kind = 3 ∧ ers x.list = l := by
  cases x
  simp only [AV.er, vList, MV.mk.injEq] at h
  exact ⟨h.1, h.2.2.2⟩
/-- A program that gives a list of integers. -/
theorem ls_result1 (A : Option Addr) (c : Nat) (l : List Int) (B1 B2 : Nat) (w : World) (hl : l.length ≤ 20) (hr : ∀ n ∈ l, -999999999 ≤ n ∧ n ≤ 999999999) (hp : (plP A c (lsA l ++ [⟨7, 0, 0, []⟩]) B1 B2).Rd w) :
    Calls Tryd.prog 20 #[(plP A c (lsA l ++ [⟨7, 0, 0, []⟩]) B1 B2).v] w fun e w' => w.grownBy w' none ∧ ∃ (M : AM) (x : AV), e = .returned (.tuple #[M.v, x.v, .bool true]) ∧ x.kind = 3 ∧ x.list.length = l.length ∧ ∀ V, w'.grownBy V none → ∀ j (h : j < l.length), ∃ a a1, x.A = some a ∧ a.add (j * 8) = a1 ∧ a1.block < V.heap.size ∧ V.cell? a1 = some (iv 1) ∧ V.cell? ⟨a1.block, a1.off + 1, none⟩ = some (iv l[j]) := by
  obtain ⟨m, r1, r2, r3⟩ := ls_run1 A c l hl
  refine (one_ok A c (lsA l ++ [⟨7, 0, 0, []⟩]) B1 B2 w m [] (vList (l.map vInt)) (by simp [lsA_len]; omega) (ls_nmA l) (ls_ckA _ l _ hr) hp r1 r2 r3 (by rw [r3]; simp)).mono ?_
  rintro e w' ⟨g, M, S', x, rfl, -, hm, hS, hx, hM⟩
  obtain ⟨e1, e2⟩ := er_vList hx
  refine ⟨g, M, x, rfl, e1, by rw [← ers_length x.list, e2]; simp, fun V gV j h => ?_⟩
  obtain ⟨a, a1, f1, f2, f3, f4, f5⟩ := (hM.s.hr x (by rw [hS]; simp)).num (j := j) (z := l[j]) (by rw [e2]; simp [h])
  exact ⟨a, a1, f1, f2, Nat.lt_of_lt_of_le f3 gV.size, gV.cell f4 (by simp), gV.cell f5 (by simp)⟩
/-- A program that takes the list apart. -/
theorem ls_result2 (A : Option Addr) (c : Nat) (l : List Int) (B1 B2 : Nat) (w : World) (hl : l.length ≤ 20) (hr : ∀ n ∈ l, -999999999 ≤ n ∧ n ≤ 999999999) (hp : (plP A c (lsL l) B1 B2).Rd w) :
    Calls Tryd.prog 20 #[(plP A c (lsL l) B1 B2).v] w fun e w' => w.grownBy w' none ∧ ∃ (M : AM) (x : AV), e = .returned (.tuple #[M.v, x.v, .bool true]) ∧ M.S.length = l.length + 1 ∧ ∀ V, w'.grownBy V none → ∀ j (h : j < l.length), ∃ a a1, M.sA = some a ∧ a.add (j * 8) = a1 ∧ a1.block < V.heap.size ∧ V.cell? a1 = some (iv 1) ∧ V.cell? ⟨a1.block, a1.off + 1, none⟩ = some (iv l[j]) := by
  obtain ⟨m, r1, r2, r3⟩ := ls_run2 A c l hl
  refine (one_ok A c (lsL l) B1 B2 w m (l.map vInt) (vList []) (by rw [lsL_len]; omega) (ls_nm l) (ls_ck _ l _ (by rw [lsL_len]; omega) hl hr) hp r1 r2 r3 (by rw [r3]; simp; omega)).mono ?_
  rintro e w' ⟨g, M, S', x, rfl, -, hm, hS, hx, hM⟩
  have hE : ers M.S = l.map vInt ++ [vList []] := (congrArg MM.S hm).trans r3
  refine ⟨g, M, x, rfl, by rw [← ers_length M.S, hE]; simp, fun V gV j h => ?_⟩
  obtain ⟨a, a1, f1, f2, f3, f4, f5⟩ := hM.s.num (j := j) (z := l[j]) (by rw [hE, List.getElem?_append_left (by simpa using h)]; simp [h])
  exact ⟨a, a1, f1, f2, Nat.lt_of_lt_of_le f3 gV.size, gV.cell f4 (by simp), gV.cell f5 (by simp)⟩
theorem lsI_snoc (l : List Int) (z : Int) : lsI (l ++ [z]) = lsI l ++ [⟨1, z, 0, []⟩] := by simp [lsI]
/-- The row while goals are set. -/
def lsM (e : Int) (k : Nat) (L : List Ins) : List Ins := (L.take k).map (lsG e) ++ L.drop k
theorem lsM_len (e : Int) (k : Nat) (L : List Ins) : (lsM e k L).length = L.length := by simp [lsM]; omega
theorem lsM_zero (e : Int) (L : List Ins) : lsM e 0 L = L := by simp [lsM]
theorem lsM_all (e : Int) (L : List Ins) : lsM e L.length L = L.map (lsG e) := by simp [lsM]
theorem lsM_at {e : Int} {k : Nat} {L : List Ins} (h : k < L.length) : (lsM e k L)[k]? = some L[k] := by
  unfold lsM
  rw [List.getElem?_append_right (by simp; omega)]
  simp [Nat.min_eq_left (Nat.le_of_lt h), h]
theorem lsM_succ {e : Int} {k : Nat} {L : List Ins} (h : k < L.length) : lsM e (k + 1) L = (lsM e k L).set k (lsG e L[k]) := by
  unfold lsM
  rw [List.take_succ_eq_append_getElem h, List.map_append, List.set_append_right _ _ (by simp; omega)]
  have e1 : L.drop k = L[k] :: L.drop (k + 1) := List.drop_eq_getElem_cons h
  simp only [List.length_map, List.length_take, Nat.min_eq_left (Nat.le_of_lt h), Nat.sub_self, List.map_cons, List.map_nil, List.append_assoc]
  rw [e1]
  rfl
theorem lsM_no {e : Int} {k : Nat} {L : List Ins} (h : k < L.length) (h13 : L[k].op ≠ 13) : lsM e (k + 1) L = lsM e k L := by
  rw [lsM_succ h]
  have h1 := lsM_at (e := e) h
  have h2 : lsG e L[k] = L[k] := by simp [lsG, h13]
  rw [h2]
  apply List.ext_getElem?
  intro i
  by_cases hi : i = k
  · subst hi
    rw [List.getElem?_set_self (by rw [lsM_len]; exact h), h1]
  · rw [List.getElem?_set_ne (by omega)]
theorem CR.at {w V : World} {L : List Ins} {g m c : Nat} {e : Int} {k : Nat} (h : CR w (lsM e k L) (.slice (Option.some ⟨g, 0, none⟩) m c) V) (hm : L.length = m) (hk : k < m) :
    V.cell? ⟨g, k * 4, none⟩ = Option.some (iv (L[k]'(by omega)).op) ∧ V.cell? ⟨g, k * 4 + 1, none⟩ = Option.some (iv (L[k]'(by omega)).a) ∧ V.frozen? ⟨g, k * 4 + 1, none⟩ = false := by
  subst hm
  have hl : (lsM e k L).length = L.length := lsM_len e k L
  have h0 := h
  rw [← hl] at h0
  have r := h0.rd
  rcases r with r | ⟨a, ea, hb, hc⟩
  · rw [r] at hl; simp at hl; omega
  · cases ea
    have h1 := hc k _ (lsM_at hk)
    have a0 : ((⟨g, 0, none⟩ : Addr).add (k * 4)) = ⟨g, k * 4, none⟩ := by
      by_cases z : k * 4 = 0
      · rw [z]; rfl
      · rw [fld_add _ _ z]; simp
    refine ⟨by have := h1 0 _ rfl; rw [Nat.add_zero, a0] at this; exact this, by have := h1 1 _ rfl; rw [← add_add', a0, fld_add _ 1 (by omega)] at this; exact this, ?_⟩
    rcases h.o.2 with ⟨e0, _⟩ | ⟨g', cap, cur, e0, _, hh, _⟩
    · cases e0
    · have e1 := (Value.slice.inj e0).1
      simp only [Option.some.injEq, Addr.mk.injEq, and_true] at e1
      subst e1
      simp [World.frozen?, hh]
theorem CR.setA {w V : World} {L : List Ins} {g m c : Nat} {e : Int} {k : Nat} (h : CR w (lsM e k L) (.slice (Option.some ⟨g, 0, none⟩) m c) V) (hm : L.length = m) (hk : k < m) (h13 : (L[k]'(by omega)).op = 13) : CR w (lsM e (k + 1) L) (.slice (Option.some ⟨g, 0, none⟩) m c) (V.setCell ⟨g, k * 4 + 1, none⟩ (iv e)) := by
  subst hm
  have h0 := h.o
  have hl : (lsM e k L).length = L.length := lsM_len e k L
  rw [← hl] at h0
  obtain ⟨o1, o2⟩ := h0.setA (lsM_at hk) e
  have e1 : lsG e L[k] = { L[k] with a := e } := by simp [lsG, h13]
  refine ⟨?_, ?_⟩
  · rw [lsM_succ hk, e1]
    rw [hl] at o1
    exact o1
  · have := (h.o.lt g rfl).1
    exact ⟨o2.os.trans h.gr.os, o2.tape.trans h.gr.tape, o2.output.trans h.gr.output, Nat.le_trans h.gr.size o2.size, fun q hq _ => (o2.block q (Nat.lt_of_lt_of_le hq h.gr.size) (by simp; omega)).trans (h.gr.block q hq (by simp))⟩
end Go.Proofs.YtdfllhmkgphcmaaDoor
