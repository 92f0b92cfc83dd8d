/- Walks and words: Mpl, RunA, RunB, RunC, RunD, RunE, OplM, RunF, RunG, RunH, RunI, RunJ, RunK, RunL. -/
import Derived.Test.YtgboboljgcfggaaGreatDoorMc1
import Derived.Laws.OwnMore
import Derived.Maps.AppendAt
import Derived.WalkLawsBesides
import Derived.WalkSpells
import Derived.RegionTactic
import Derived.Deep.RegionLaw
import Derived.Outline
import Derived.Deep.RegionHeld3
import Derived.StillTailTactics
namespace Go.Proofs.YtgboboljgcfggaaGreatDoor
inductive MV where
  | mk (kind int block : Int) (list : List MV)
def MV.kind : MV → Int | .mk k _ _ _ => k
def MV.int : MV → Int | .mk _ i _ _ => i
def MV.block : MV → Int | .mk _ _ b _ => b
def MV.list : MV → List MV | .mk _ _ _ l => l
structure MF where
  block : Int
  at_ : Int
  L : List MV
structure MS where
  S : List MV
  F : List MF
  seed : Int
  done : Bool
abbrev w64 (x : Int) : Int := Go.RowKit.wrap64 x
def u64 (x : Int) : Int := IntKind.u64.wrap x
def vInt (n : Int) : MV := .mk 1 n 0 []
def vBool (b : Bool) : MV := .mk 2 (if b then 1 else 0) 0 []
def vBit (n : Int) : MV := .mk 2 n 0 []
def vList (l : List MV) : MV := .mk 3 0 0 l
def vFun (b : Int) (l : List MV) : MV := .mk 4 0 b l
def unsn {α : Type} (l : List α) : Option (List α × α) := match l.getLast? with | some x => some (l.dropLast, x) | none => none
@[simp] theorem unsn_nil {α : Type} : unsn ([] : List α) = none := rfl
@[simp] theorem unsn_snoc {α : Type} (l : List α) (x : α) : unsn (l ++ [x]) = some (l, x) := by simp [unsn]
theorem snoc_cases {α : Type} (l : List α) : l = [] ∨ ∃ l' x, l = l' ++ [x] := by
  rcases List.eq_nil_or_concat l with h | ⟨l', x, h⟩
  · exact .inl h
  · exact .inr ⟨l', x, by rw [h]; simp⟩
def popK (k : Int) (S : List MV) : Option (List MV × MV) := match unsn S with | some (S', x) => if x.kind = k then some (S', x) else none | none => none
@[simp] theorem popK_nil (k : Int) : popK k [] = none := rfl
theorem popK_snoc (k : Int) (S : List MV) (x : MV) : popK k (S ++ [x]) = if x.kind = k then some (S, x) else none := by simp [popK]
def opInt (name : T) (a b : Int) : Int := if name = [43] then w64 (a + b) else if name = [45] then w64 (a - b) else w64 (a * b)
def nextSeed (s : Int) : Int := u64 (u64 (s * 6364136223846793005) + 1442695040888963407)
def drawn (s a b : Int) : Bool := decide ((s / 8589934592).tmod (u64 b) < u64 a)
def exec (bs : List Blk) (x : Ins) (S : List MV) (G : List MF) (f : MF) (seed : Int) : Except Int MS :=
  let ok (S : List MV) (f : MF) : Except Int MS := .ok ⟨S, G ++ [f], seed, false⟩
  if x.op = 1 then ok (S ++ [vInt x.a]) f
  else if x.op = 2 then ok (S ++ [vBit x.a]) f
  else if x.op = 3 then (match f.L[x.a.toNat]? with | some v => ok (S ++ [v]) f | none => .error 26)
  else if x.op = 4 then .ok ⟨S, G ++ [f] ++ [⟨x.a, 0, []⟩], seed, false⟩
  else if x.op = 5 then (if (bs[x.a.toNat]?.map Blk.cap) = some (f.L.length : Int) then ok (S ++ [vFun x.a f.L]) f else .error 26)
  else if x.op = 6 then (match unsn S with
    | none => .error 26
    | some (S1, v) => match popK 4 S1 with
      | none => .error 26
      | some (S2, h) => .ok ⟨S2, G ++ [f] ++ [⟨h.block, 0, h.list ++ [v]⟩], seed, false⟩)
  else if x.op = 7 then (if S = [] then .error 26 else .ok ⟨S, G, seed, G.isEmpty⟩)
  else if x.op = 8 then ok S { f with at_ := x.a }
  else if x.op = 9 then (match popK 2 S with | none => .error 26 | some (S1, v) => ok S1 (if v.int = 0 then { f with at_ := x.a } else f))
  else if x.op = 10 then (match popK 1 S with
    | none => .error 26
    | some (S1, b) => match popK 1 S1 with
      | none => .error 26
      | some (S2, a) =>
        if x.name = [61] then ok (S2 ++ [vBool (a.int == b.int)]) f
        else if x.name = [60] then ok (S2 ++ [vBool (decide (a.int < b.int))]) f
        else if opInt x.name a.int b.int < -999999999 ∨ 999999999 < opInt x.name a.int b.int then .error 5
        else ok (S2 ++ [vInt (opInt x.name a.int b.int)]) f)
  else if x.op = 11 then ok (S ++ [vList []]) f
  else if x.op = 12 then (match popK 3 S with
    | none => .error 26
    | some (S1, l) => match unsn S1 with
      | none => .error 26
      | some (S2, v) => ok (S2 ++ [vList (v :: l.list)]) f)
  else if x.op = 13 then (match popK 3 S with
    | none => .error 26
    | some (S1, l) => match l.list with
      | [] => ok S1 { f with at_ := x.a }
      | h :: t => ok S1 { f with L := f.L ++ [h, vList t] })
  else if x.op = 14 then (match unsn S with | none => .error 26 | some (S1, v) => ok S1 { f with L := f.L ++ [v] })
  else if x.op = 15 then (if (f.L.length : Int) < x.a then .error 26 else ok S { f with L := f.L.take (f.L.length - x.a.toNat) })
  else .ok ⟨S ++ [vBool (drawn (nextSeed seed) x.a x.b)], G ++ [f], nextSeed seed, false⟩
structure MM where
  bs : List Blk
  S : List MV
  F : List MF
  steps : Int
  seed : Int
  done : Bool
  err : Int
def stepM (m : MM) : MM :=
  match unsn m.F with
  | none => { m with steps := m.steps + 1, err := 26 }
  | some (G, f) => match m.bs[f.block.toNat]? with
    | none => { m with steps := m.steps + 1, err := 26 }
    | some b => match b.ins[f.at_.toNat]? with
      | none => { m with steps := m.steps + 1, err := 26 }
      | some x => match exec m.bs x m.S G { f with at_ := f.at_ + 1 } m.seed with
        | .error e => { m with steps := m.steps + 1, err := e }
        | .ok s => { m with S := s.S, F := s.F, seed := s.seed, done := s.done, steps := m.steps + 1 }
def ended (m : MM) : Bool := m.done || m.err != 0
inductive MV.Ok (nb n : Nat) : MV → Prop
  | mk {k i b : Int} {l : List MV} (h0 : 0 ≤ b) (h1 : b < nb) (hl : l.length ≤ n) (h : ∀ x ∈ l, MV.Ok nb n x) : MV.Ok nb n (.mk k i b l)
end Go.Proofs.YtgboboljgcfggaaGreatDoor
namespace Go.Proofs.YtgboboljgcfggaaGreatDoor
open Go.RowKit
inductive AV where
  | mk (kind int : Int) (A : Option Addr) (c : Nat) (block : Int) (list : List AV)
def AV.kind : AV → Int | .mk k _ _ _ _ _ => k
def AV.int : AV → Int | .mk _ i _ _ _ _ => i
def AV.A : AV → Option Addr | .mk _ _ a _ _ _ => a
def AV.c : AV → Nat | .mk _ _ _ c _ _ => c
def AV.block : AV → Int | .mk _ _ _ _ b _ => b
def AV.list : AV → List AV | .mk _ _ _ _ _ l => l
abbrev nilS : Value := .slice none 0 0
abbrev eSm : Value := .string ⟨#[]⟩
def AV.cs (x : AV) : List Value := [iv x.kind, iv x.int, .slice x.A x.list.length x.c, iv x.block, eSm, eSm, nilS, nilS]
def AV.v (x : AV) : Value := .agg #[iv x.kind, iv x.int, .slice x.A x.list.length x.c, iv x.block, eSm, eSm, nilS, nilS]
mutual
def AV.er : AV → MV
  | .mk k i _ _ b l => .mk k i b (ers l)
def ers : List AV → List MV
  | [] => []
  | x :: l => x.er :: ers l
end
@[simp] theorem ers_nil : ers [] = [] := by simp [ers]
@[simp] theorem ers_cons (x : AV) (l : List AV) : ers (x :: l) = x.er :: ers l := by simp [ers]
@[simp] theorem ers_append (l m : List AV) : ers (l ++ m) = ers l ++ ers m := by induction l <;> simp [*]
@[simp] theorem ers_length (l : List AV) : (ers l).length = l.length := by induction l <;> simp [*]
theorem ers_map (l : List AV) : ers l = l.map AV.er := by induction l <;> simp [*]
theorem ers_take (l : List AV) (n : Nat) : ers (l.take n) = (ers l).take n := by rw [ers_map, ers_map, List.map_take]
theorem er_kind (x : AV) : x.er.kind = x.kind := by cases x; simp [AV.er, MV.kind, AV.kind]
theorem er_int (x : AV) : x.er.int = x.int := by cases x; simp [AV.er, MV.int, AV.int]
theorem er_block (x : AV) : x.er.block = x.block := by cases x; simp [AV.er, MV.block, AV.block]
theorem er_list (x : AV) : x.er.list = ers x.list := by cases x; simp [AV.er, MV.list, AV.list]
theorem AV.cs_len (x : AV) : x.cs.length = 8 := rfl
inductive Tag where
  | no
  | own
  | all
  | arr (lo sz : Nat)
  | loc (d hi : Nat)
def Tag.le : Tag → Tag → Prop
  | .no, t => t = .no
  | .own, t => t = .own
  | .all, t => t = .all
  | .arr lo sz, t => ∃ lo', t = .arr lo' sz ∧ lo' ≤ lo
  | .loc d hi, t => ∃ hi', t = .loc d hi' ∧ hi ≤ hi'
theorem Tag.le_refl (t : Tag) : t.le t := by
  cases t with
  | arr lo sz => exact ⟨lo, rfl, Nat.le_refl _⟩
  | loc d hi => exact ⟨hi, rfl, Nat.le_refl _⟩
  | no => rfl
  | own => rfl
  | all => rfl
def sta (B : Nat) (tag : Nat → Tag) (p : Addr) : Prop :=
  p.block < B ∨ tag p.block = .all ∨ (∃ lo sz, tag p.block = .arr lo sz ∧ lo ≤ p.off) ∨ ∃ d hi, tag p.block = .loc d hi ∧ p.off < hi
theorem sta.le {B : Nat} {tag tag' : Nat → Tag} {p : Addr} (h : sta B tag p) (ht : (tag p.block).le (tag' p.block)) : sta B tag' p := by
  rcases h with h | h | ⟨lo, sz, h, hl⟩ | ⟨d, hi, h, hl⟩
  · exact .inl h
  · rw [h] at ht; exact .inr (.inl ht)
  · rw [h] at ht
    obtain ⟨lo', e, h'⟩ := ht
    exact .inr (.inr (.inl ⟨lo', sz, e, by omega⟩))
  · rw [h] at ht
    obtain ⟨hi', e, h'⟩ := ht
    exact .inr (.inr (.inr ⟨d, hi', e, by omega⟩))
inductive LRd (B : Nat) (tag : Nat → Tag) (w : World) : Option Addr → Nat → List AV → Prop
  | mk {A : Option Addr} {c : Nat} {L : List AV} (hc : L.length ≤ c) (hm : c ≤ 9223372036854775807) (h0 : A = none → c = 0)
      (hb : ∀ a, A = some a → a.block < w.heap.size)
      (he : ∀ a lo sz, A = some a → tag a.block = .arr lo sz → a.off + L.length * 8 = sz)
      (hx : ∀ a, A = some a → ∀ (j : Nat) x, L[j]? = some x → ∀ (i : Nat) v, x.cs[i]? = some v → w.cell? (a.add (j * 8 + i)) = some v ∧ sta B tag (a.add (j * 8 + i)))
      (hr : ∀ x ∈ L, LRd B tag w x.A x.c x.list) : LRd B tag w A c L
theorem LRd.hc {B : Nat} {tag : Nat → Tag} {w : World} {A : Option Addr} {c : Nat} {L : List AV} (h : LRd B tag w A c L) : L.length ≤ c := by cases h; assumption
theorem LRd.hm {B : Nat} {tag : Nat → Tag} {w : World} {A : Option Addr} {c : Nat} {L : List AV} (h : LRd B tag w A c L) : c ≤ 9223372036854775807 := by cases h; assumption
theorem LRd.h0 {B : Nat} {tag : Nat → Tag} {w : World} {A : Option Addr} {c : Nat} {L : List AV} (h : LRd B tag w A c L) : A = none → c = 0 := by cases h; assumption
theorem LRd.hb {B : Nat} {tag : Nat → Tag} {w : World} {A : Option Addr} {c : Nat} {L : List AV} (h : LRd B tag w A c L) : ∀ a, A = some a → a.block < w.heap.size := by cases h; assumption
theorem LRd.he {B : Nat} {tag : Nat → Tag} {w : World} {A : Option Addr} {c : Nat} {L : List AV} (h : LRd B tag w A c L) : ∀ a lo sz, A = some a → tag a.block = .arr lo sz → a.off + L.length * 8 = sz := by cases h; assumption
theorem LRd.hx {B : Nat} {tag : Nat → Tag} {w : World} {A : Option Addr} {c : Nat} {L : List AV} (h : LRd B tag w A c L) : ∀ a, A = some a → ∀ (j : Nat) x, L[j]? = some x → ∀ (i : Nat) v, x.cs[i]? = some v → w.cell? (a.add (j * 8 + i)) = some v ∧ sta B tag (a.add (j * 8 + i)) := by cases h; assumption
theorem LRd.hr {B : Nat} {tag : Nat → Tag} {w : World} {A : Option Addr} {c : Nat} {L : List AV} (h : LRd B tag w A c L) : ∀ x ∈ L, LRd B tag w x.A x.c x.list := by cases h; assumption
theorem LRd.nil (B : Nat) (tag : Nat → Tag) (w : World) : LRd B tag w none 0 [] :=
  .mk (by simp) (by omega) (fun _ => rfl) (by simp) (by simp) (by simp) (by simp)
theorem LRd.mono {B : Nat} {tag tag' : Nat → Tag} {w w' : World} (hs : w.heap.size ≤ w'.heap.size) (ht : ∀ k, k < w.heap.size → (tag k).le (tag' k)) (hk : ∀ p : Addr, p.block < w.heap.size → sta B tag p → w'.cell? p = w.cell? p)
    {A : Option Addr} {c : Nat} {L : List AV} (h : LRd B tag w A c L) : LRd B tag' w' A c L := by
  induction h with
  | @mk A c L hc hm h0 hb he hx hr ih =>
    refine .mk hc hm h0 (fun a e => by have := hb a e; omega) ?_ ?_ ih
    · intro a lo sz e ha
      have h1 := ht a.block (hb a e)
      cases h2 : tag a.block with
      | no => rw [h2] at h1; rw [show tag' a.block = .no from h1] at ha; cases ha
      | own => rw [h2] at h1; rw [show tag' a.block = .own from h1] at ha; cases ha
      | all => rw [h2] at h1; rw [show tag' a.block = .all from h1] at ha; cases ha
      | loc d hi => rw [h2] at h1; obtain ⟨hi', e', _⟩ := h1; rw [e'] at ha; cases ha
      | arr lo0 sz0 =>
        rw [h2] at h1
        obtain ⟨lo', e', _⟩ := h1
        rw [e'] at ha
        cases ha
        exact he a lo0 sz e h2
    · intro a e j x hj i v hi
      obtain ⟨h1, h2⟩ := hx a e j x hj i v hi
      have hb' : (a.add (j * 8 + i)).block < w.heap.size := by rw [add_block]; exact hb a e
      exact ⟨(hk _ hb' h2).trans h1, h2.le (ht _ hb')⟩
structure Fr where
  block : Int
  at_ : Int
  A : Option Addr
  c : Nat
  L : List AV
def Fr.cs (f : Fr) : List Value := [iv f.block, iv f.at_, .slice f.A f.L.length f.c]
def Fr.v (f : Fr) : Value := .agg #[iv f.block, iv f.at_, .slice f.A f.L.length f.c]
def Fr.er (f : Fr) : MF := ⟨f.block, f.at_, ers f.L⟩
theorem Fr.cs_len (x : Fr) : x.cs.length = 3 := rfl
structure Rm where
  ab : Nat
  st : Nat
  sz : Nat
  ro : Nat
structure Gh where
  tag : Nat → Tag
  S : List AV
  sv : Value
  F : List Fr
  fv : Value
  R : List Rm
structure FOk (B : Nat) (tag : Nat → Tag) (w : World) (d : Nat) (f : Fr) : Prop where
  l : LRd B tag w f.A f.c f.L
  na : ∀ a lo sz, f.A = some a → tag a.block ≠ .arr lo sz
  sp : f.c = f.L.length ∨ ∃ k, f.A = some ⟨k, 0, none⟩ ∧ B ≤ k ∧ tag k = .loc d (f.L.length * 8) ∧ w.ownsRow B 56 8 (.slice f.A f.L.length f.c) f.L.length (f.L.flatMap AV.cs)
theorem FOk.mono {B : Nat} {tag tag' : Nat → Tag} {w w' : World} (hs : w.heap.size ≤ w'.heap.size) (ht : ∀ k, k < w.heap.size → (tag k).le (tag' k)) (hk : ∀ p : Addr, p.block < w.heap.size → sta B tag p → w'.cell? p = w.cell? p)
    {d : Nat} (hl : ∀ k hi, B ≤ k → k < w.heap.size → tag k = .loc d hi → tag' k = .loc d hi ∧ w'.heap[k]? = w.heap[k]?) {f : Fr} (h : FOk B tag w d f) : FOk B tag' w' d f := by
  refine ⟨h.l.mono hs ht hk, fun a lo sz e ha => ?_, ?_⟩
  · have h1 := ht a.block (h.l.hb a e)
    cases h2 : tag a.block with
    | no => rw [h2] at h1; rw [show tag' a.block = .no from h1] at ha; cases ha
    | own => rw [h2] at h1; rw [show tag' a.block = .own from h1] at ha; cases ha
    | all => rw [h2] at h1; rw [show tag' a.block = .all from h1] at ha; cases ha
    | loc d hi => rw [h2] at h1; obtain ⟨hi', e', _⟩ := h1; rw [e'] at ha; cases ha
    | arr lo0 sz0 => exact h.na a lo0 sz0 e h2
  rcases h.sp with h1 | ⟨k, h1, h2, h3, h4⟩
  · exact .inl h1
  · have h5 := hl k _ h2 (h.l.hb _ h1) h3
    refine .inr ⟨k, h1, h2, h5.1, h4.1, ?_⟩
    rcases h4.2 with h6 | ⟨g, cap, cur, e1, e2, e3, e4⟩
    · exact .inl h6
    · have : g = k := by rw [h1] at e1; cases e1; rfl
      subst this
      exact .inr ⟨g, cap, cur, e1, e2, h5.2.trans e3, e4⟩
structure ROk (B : Nat) (tag : Nat → Tag) (w : World) (r : Rm) : Prop where
  o : w.heap[r.ro]? = some (.cells #[.slice (some ⟨r.ab, 0, none⟩) r.sz r.sz, iv r.st] 236 (0, 0))
  ot : tag r.ro = .own
  ob : B ≤ r.ro
  a : ∃ cur, w.heap[r.ab]? = some (.cells cur 56 (0, 0)) ∧ cur.size = r.sz * 8
  at_ : tag r.ab = .arr (r.st * 8) (r.sz * 8)
  ab : B ≤ r.ab
  le : r.st ≤ r.sz
  sz : r.sz ≤ 1000000000
def Rm.kv (r : Rm) : Value × Value := (.pointer (some ⟨r.ab, r.st * 8, none⟩), .pointer (some ⟨r.ro, 0, none⟩))
def effs (tb rb : Nat) : Array MapEntry :=
  let c (f : Nat) : Value := .func (.func f) #[] #[.pointer (some ⟨tb, 0, none⟩)]
  let m (f : Nat) : Value := .func (.func f) #[.pointer (some ⟨rb, 0, none⟩)] #[]
  #[⟨iv 1, c 127, 0⟩, ⟨iv 2, c 129, 1⟩, ⟨iv 3, m 130, 2⟩, ⟨iv 4, c 131, 3⟩, ⟨iv 5, m 133, 4⟩, ⟨iv 6, m 134, 5⟩, ⟨iv 7, m 135, 6⟩, ⟨iv 8, c 136, 7⟩, ⟨iv 9, c 137, 8⟩, ⟨iv 10, m 139, 9⟩, ⟨iv 11, c 140, 10⟩, ⟨iv 12, m 141, 11⟩, ⟨iv 13, m 142, 12⟩, ⟨iv 14, c 143, 13⟩, ⟨iv 15, m 146, 14⟩, ⟨iv 16, m 147, 15⟩]
structure Bl where
  w0 : World
  rb : Nat
  tb : Nat
  eb : Nat
  mb : Nat
def Bl.B (b : Bl) : Nat := b.w0.heap.size
structure Mem (b : Bl) (w : World) (g : Gh) : Prop where
  os : w.os = b.w0.os
  tape : w.tape = b.w0.tape
  output : w.output = b.w0.output
  hs : b.B ≤ w.heap.size
  old : ∀ k, k < b.B → w.heap[k]? = b.w0.heap[k]?
  lo : ∀ k, k < b.B → g.tag k = .no
  new : ∀ k, w.heap.size ≤ k → g.tag k = .no
  rt : g.tag b.rb = .own
  rbb : b.B ≤ b.rb
  et : g.tag b.eb = .own
  eo : w.heap[b.eb]? = some (.map (effs b.tb b.rb) 16)
  tt : g.tag b.tb = .own
  to : w.heap[b.tb]? = some (.cells #[.pointer (some ⟨b.rb, 0, none⟩)] 160 (0, 0))
  mt : g.tag b.mb = .own
  mbb : b.B ≤ b.mb
  mo : ∃ es clk, w.heap[b.mb]? = some (.map es clk) ∧ es.toList.map (fun e => (e.key, e.val)) = g.R.map Rm.kv
  st : w.ownsRow b.B 56 8 g.sv g.S.length (g.S.flatMap AV.cs)
  stt : ∀ k, g.sv.ownBlock = some k → g.tag k = .own
  fr : w.ownsRow b.B 158 3 g.fv g.F.length (g.F.flatMap Fr.cs)
  frt : ∀ k, g.fv.ownBlock = some k → g.tag k = .own
  sr : ∀ x ∈ g.S, LRd b.B g.tag w x.A x.c x.list
  fl : ∀ (d : Nat) f, g.F[d]? = some f → FOk b.B g.tag w d f
  rm : ∀ r ∈ g.R, ROk b.B g.tag w r
  ra : g.R.Pairwise fun r r' => r.ab ≠ r'.ab ∧ r.ro ≠ r'.ro
def Tag.still : Tag → Bool
  | .no => true
  | .all => true
  | _ => false
theorem Tag.still_le {a b : Tag} (ha : a.still = true) (h : a.le b) : b.still = true := by
  cases a with
  | no => cases h; rfl
  | all => cases h; rfl
  | own => cases ha
  | arr lo sz => cases ha
  | loc d hi => cases ha
structure Ch (w : World) (g : Gh) (w' : World) (g' : Gh) : Prop where
  os : w'.os = w.os
  tape : w'.tape = w.tape
  output : w'.output = w.output
  size : w.heap.size ≤ w'.heap.size
  block : ∀ k, k < w.heap.size → (g.tag k).still = true → w'.heap[k]? = w.heap[k]?
  tag : ∀ k, k < w.heap.size → (g.tag k).le (g'.tag k)
theorem Ch.refl (w : World) (g : Gh) : Ch w g w g := ⟨rfl, rfl, rfl, Nat.le_refl _, fun _ _ _ => rfl, fun _ _ => Tag.le_refl _⟩
theorem Tag.le_trans {a b c : Tag} (h : a.le b) (h' : b.le c) : a.le c := by
  cases a with
  | no => cases h; exact h'
  | own => cases h; exact h'
  | all => cases h; exact h'
  | arr lo sz =>
    obtain ⟨lo', rfl, h1⟩ := h
    obtain ⟨lo2, rfl, h2⟩ := h'
    exact ⟨lo2, rfl, by omega⟩
  | loc d hi =>
    obtain ⟨hi', rfl, h1⟩ := h
    obtain ⟨hi2, rfl, h2⟩ := h'
    exact ⟨hi2, rfl, by omega⟩
theorem Ch.trans {w w' w2 : World} {g g' g2 : Gh} (h : Ch w g w' g') (k : Ch w' g' w2 g2) : Ch w g w2 g2 where
  os := k.os.trans h.os
  tape := k.tape.trans h.tape
  output := k.output.trans h.output
  size := Nat.le_trans h.size k.size
  block i hi ht := by
    have h1 := h.tag i hi
    exact (k.block i (Nat.lt_of_lt_of_le hi h.size) (Tag.still_le ht h1)).trans (h.block i hi ht)
  tag i hi := Tag.le_trans (h.tag i hi) (k.tag i (Nat.lt_of_lt_of_le hi h.size))
end Go.Proofs.YtgboboljgcfggaaGreatDoor
namespace Go.Proofs.YtgboboljgcfggaaGreatDoor
open Go.RowKit
theorem info54 : (Tryz.prog.info? 56).map (fun i => (i.zero, i.size, i.bytes)) = some (some (.agg #[.int .i64 0, .int .i64 0, .slice none 0 0, .int .i64 0, .string ⟨#[]⟩, .string ⟨#[]⟩, .slice none 0 0, .slice none 0 0]), 8, 128) := by kernel_rfl
theorem info78 : (Tryz.prog.info? 158).map (fun i => (i.zero, i.size, i.bytes)) = some (some (.agg #[.int .i64 0, .int .i64 0, .slice none 0 0]), 3, 40) := by kernel_rfl
theorem row_keep {w w' : World} {base : Nat} {e : TypeId} {size : Nat} {v : Value} {n : Nat} {xs : List Value} (h : w.ownsRow base e size v n xs) (hk : ∀ g cur, v.ownBlock = some g → w.heap[g]? = some (.cells cur e (0, 0)) → w'.heap[g]? = w.heap[g]?) : w'.ownsRow base e size v n xs := by
  refine ⟨h.1, ?_⟩
  rcases h.2 with h1 | ⟨g, cap, cur, rfl, h2, h3, h4⟩
  · exact .inl h1
  · exact .inr ⟨g, cap, cur, rfl, h2, (hk g cur rfl h3).trans h3, h4⟩
theorem heap_ltM {w : World} {k : Nat} {o : Obj} (h : w.heap[k]? = some o) : k < w.heap.size := (Array.getElem?_eq_some_iff.1 h).1
theorem Mem.keep {b : Bl} {w w' : World} {g : Gh} (h : Mem b w g) (os : w'.os = w.os) (tape : w'.tape = w.tape) (output : w'.output = w.output) (hs : w.heap.size ≤ w'.heap.size) (x : Nat)
    (hx : x < w.heap.size → g.tag x = .own ∧ b.B ≤ x ∧ ∃ cur fz, w.heap[x]? = some (.cells cur 165 fz)) (hk : ∀ k, k < w.heap.size → k ≠ x → (k < b.B ∨ g.tag k ≠ .no) → w'.heap[k]? = w.heap[k]?) : Mem b w' g := by
  have ne : ∀ {k : Nat} {o : Obj}, w.heap[k]? = some o → (∀ cur fz, o ≠ .cells cur 165 fz) → k ≠ x := fun {k o} hk1 ho e => by
    subst e
    obtain ⟨_, _, cur, fz, h1⟩ := hx (heap_ltM hk1)
    rw [h1] at hk1
    exact ho cur fz (Option.some.inj hk1).symm
  have nt : ∀ {k : Nat}, k < w.heap.size → g.tag k ≠ .own → k ≠ x := fun {k} hk1 ht e => by subst e; exact ht (hx hk1).1
  have keep : ∀ {k : Nat} {o : Obj}, w.heap[k]? = some o → (∀ cur fz, o ≠ .cells cur 165 fz) → g.tag k ≠ .no → w'.heap[k]? = some o := fun {k o} h1 h2 h3 => (hk k (heap_ltM h1) (ne h1 h2) (.inr h3)).trans h1
  have own : ∀ {k : Nat}, g.tag k = .own → g.tag k ≠ .no := fun h => by rw [h]; simp
  have cells : ∀ p : Addr, p.block < w.heap.size → sta b.B g.tag p → w'.cell? p = w.cell? p := fun p hp hs => by
    refine World.cell?_of_block (w := w) ?_
    by_cases hB : p.block < b.B
    · exact hk _ hp (fun e => by have := (hx (e ▸ hp)).2.1; omega) (.inl hB)
    · have : g.tag p.block ≠ .no ∧ g.tag p.block ≠ .own := by
        rcases hs with h1 | h1 | ⟨lo, sz, h1, _⟩ | ⟨d, hi, h1, _⟩
        · exact absurd h1 hB
        · rw [h1]; simp
        · rw [h1]; simp
        · rw [h1]; simp
      exact hk _ hp (nt hp this.2) (.inr this.1)
  have hB := h.hs
  refine { os := os.trans h.os, tape := tape.trans h.tape, output := output.trans h.output, hs := Nat.le_trans h.hs hs, old := ?_, lo := h.lo, new := fun k hk' => h.new k (Nat.le_trans hs hk'), rt := h.rt, rbb := h.rbb, et := h.et, eo := ?_, tt := h.tt, to := ?_, mt := h.mt, mbb := h.mbb, mo := ?_, st := ?_, stt := h.stt, fr := ?_, frt := h.frt, sr := ?_, fl := ?_, rm := ?_, ra := h.ra }
  · intro k hkB
    by_cases e : k < w.heap.size
    · exact (hk k e (fun e' => by subst e'; have := (hx e).2.1; omega) (.inl hkB)).trans (h.old k hkB)
    · omega
  · exact keep h.eo (by simp) (own h.et)
  · exact keep h.to (by simp) (own h.tt)
  · obtain ⟨es, clk, h1, h2⟩ := h.mo
    exact ⟨es, clk, keep h1 (by simp) (own h.mt), h2⟩
  · exact row_keep h.st fun k cur e1 e2 => (keep e2 (by simp) (own (h.stt k e1))).trans e2.symm
  · exact row_keep h.fr fun k cur e1 e2 => (keep e2 (by simp) (own (h.frt k e1))).trans e2.symm
  · exact fun v hv => (h.sr v hv).mono hs (fun k _ => Tag.le_refl _) cells
  · exact fun d f hd => (h.fl d f hd).mono hs (fun k _ => Tag.le_refl _) cells fun k hi hkB hk' ht => ⟨ht, hk k hk' (nt hk' (by rw [ht]; simp)) (.inr (by rw [ht]; simp))⟩
  · intro r hr
    have q := h.rm r hr
    obtain ⟨cur, q1, q2⟩ := q.a
    exact { q with o := keep q.o (by simp) (own q.ot), a := ⟨cur, keep q1 (by simp) (by rw [q.at_]; simp), q2⟩ }
theorem Mem.alloc {b : Bl} {w : World} {g : Gh} (h : Mem b w g) (o : Obj) : Mem b (w.alloc o) g :=
  h.keep rfl rfl rfl (by simp) w.heap.size (by intro hx; omega) fun k hk _ _ => Below.heap_alloc w o k hk
theorem Mem.drewN {b : Bl} {w : World} {g : Gh} (h : Mem b w g) (n : Nat) : Mem b (w.drewN n) g :=
  h.keep rfl rfl rfl (Nat.le_refl _) w.heap.size (by intro hx; omega) fun k hk _ _ => rfl
theorem Mem.below {b : Bl} {w w' : World} {g : Gh} (h : Mem b w g) (hb : Below w.heap.size w w') : Mem b w' g :=
  h.keep hb.os hb.tape hb.output hb.size w.heap.size (by intro hx; omega) fun k hk _ _ => hb.block k hk
theorem Mem.box {b : Bl} {w : World} {g : Gh} (h : Mem b w g) {p : Addr} (hp : b.B ≤ p.block) (ht : g.tag p.block = .no) (u : Value) : Mem b (w.setCell p u) g := by
  refine h.keep rfl rfl rfl (by simp) w.heap.size (by intro hx; omega) fun k hk _ hr => Below.heap_setCell w p u k fun e => ?_
  subst e
  rcases hr with hr | hr
  · omega
  · exact hr ht
theorem Mem.only {b : Bl} {w w' : World} {g : Gh} (h : Mem b w g) (hg : w.grownBy w' (some b.rb)) {cur : Array Value} {fz : Nat × Nat} (hr : w.heap[b.rb]? = some (.cells cur 165 fz)) : Mem b w' g :=
  h.keep hg.os hg.tape hg.output hg.size b.rb (fun _ => ⟨h.rt, h.rbb, cur, fz, hr⟩) fun k hk hne _ => hg.block k hk (by simpa using hne)
def rcs (p : Prg) (sv fv : Value) (steps seed : Int) (done : Bool) (err : Int) (b : Bl) : Array Value :=
  #[.slice p.bA p.bs.length p.bc, .slice p.sA p.ss.length p.sc, sv, fv, iv steps, .int .u64 seed, .bool done, iv err, .map (some b.eb), .map (some b.mb)]
def RB (b : Bl) (p : Prg) (w : World) (sv fv : Value) (steps seed : Int) (done : Bool) (err : Int) : Prop := w.heap[b.rb]? = some (.cells (rcs p sv fv steps seed done err b) 165 (0, 0))
section
variable {b : Bl} {p : Prg} {w : World} {sv fv : Value} {steps seed : Int} {done : Bool} {err : Int}
theorem RB.lt (h : RB b p w sv fv steps seed done err) : b.rb < w.heap.size := heap_ltM h
theorem RB.f (h : RB b p w sv fv steps seed done err) (j : Nat) : w.frozen? ⟨b.rb, j, none⟩ = false := by simp [World.frozen?, show w.heap[b.rb]? = _ from h]
theorem RB.c (h : RB b p w sv fv steps seed done err) (j : Nat) : w.cell? ⟨b.rb, j, none⟩ = (rcs p sv fv steps seed done err b)[j]? := by simp [World.cell?, show w.heap[b.rb]? = _ from h]
theorem RB.keep {w' : World} (h : RB b p w sv fv steps seed done err) (e : w'.heap[b.rb]? = w.heap[b.rb]?) : RB b p w' sv fv steps seed done err := e.trans h
theorem RB.alloc (h : RB b p w sv fv steps seed done err) (o : Obj) : RB b p (w.alloc o) sv fv steps seed done err := h.keep (Below.heap_alloc w o _ h.lt)
theorem heap_set {w : World} {k : Nat} {c : Array Value} {e : TypeId} {fz : Nat × Nat} (h : w.heap[k]? = some (.cells c e fz)) (j : Nat) (u : Value) : (w.setCell ⟨k, j, none⟩ u).heap[k]? = some (.cells (c.setIfInBounds j u) e fz) := by
  simp [World.setCell, Array.getElem?_modify, h]
theorem RB.s_sv (h : RB b p w sv fv steps seed done err) (u : Value) : RB b p (w.setCell ⟨b.rb, 2, none⟩ u) u fv steps seed done err := (heap_set h 2 u).trans (by simp [rcs])
theorem RB.s_fv (h : RB b p w sv fv steps seed done err) (u : Value) : RB b p (w.setCell ⟨b.rb, 3, none⟩ u) sv u steps seed done err := (heap_set h 3 u).trans (by simp [rcs])
theorem RB.s_steps (h : RB b p w sv fv steps seed done err) (u : Int) : RB b p (w.setCell ⟨b.rb, 4, none⟩ (iv u)) sv fv u seed done err := (heap_set h 4 _).trans (by simp [rcs])
theorem RB.s_seed (h : RB b p w sv fv steps seed done err) (u : Int) : RB b p (w.setCell ⟨b.rb, 5, none⟩ (.int .u64 u)) sv fv steps u done err := (heap_set h 5 _).trans (by simp [rcs])
theorem RB.s_done (h : RB b p w sv fv steps seed done err) (u : Bool) : RB b p (w.setCell ⟨b.rb, 6, none⟩ (.bool u)) sv fv steps seed u err := (heap_set h 6 _).trans (by simp [rcs])
theorem RB.s_err (h : RB b p w sv fv steps seed done err) (u : Int) : RB b p (w.setCell ⟨b.rb, 7, none⟩ (iv u)) sv fv steps seed done u := (heap_set h 7 _).trans (by simp [rcs])
end
theorem grown_setR {w : World} (k j : Nat) (u : Value) : w.grownBy (w.setCell ⟨k, j, none⟩ u) (some k) :=
  ⟨rfl, rfl, rfl, by simp, fun i _ hne => Below.heap_setCell w _ u i (by simpa using hne)⟩
theorem grown_alloc (w : World) (o : Obj) (row : Option Nat) : w.grownBy (w.alloc o) row := World.grownBy_alloc w o row
theorem grown_drewN (w : World) (n : Nat) (row : Option Nat) : w.grownBy (w.drewN n) row := ⟨rfl, rfl, rfl, Nat.le_refl _, fun _ _ _ => rfl⟩
theorem grown_below {w w' : World} (h : Below w.heap.size w w') (row : Option Nat) : w.grownBy w' row := ⟨h.os, h.tape, h.output, h.size, fun k hk _ => h.block k hk⟩
theorem Ch.only {b : Bl} {w w' : World} {g : Gh} (h : Mem b w g) (hg : w.grownBy w' (some b.rb)) : Ch w g w' g :=
  ⟨hg.os, hg.tape, hg.output, hg.size, fun k hk ht => hg.block k hk (fun e => by cases e; rw [h.rt] at ht; cases ht), fun _ _ => Tag.le_refl _⟩
theorem Ch.grown {w w' : World} {g : Gh} (hg : w.grownBy w' none) : Ch w g w' g :=
  ⟨hg.os, hg.tape, hg.output, hg.size, fun k hk _ => hg.block k hk (by simp), fun _ _ => Tag.le_refl _⟩
def upT (t : Nat → Tag) (k : Nat) (x : Tag) : Nat → Tag := fun i => if i = k then x else t i
@[simp] theorem upT_at (t : Nat → Tag) (k : Nat) (x : Tag) : upT t k x k = x := by simp [upT]
theorem upT_ne (t : Nat → Tag) {k i : Nat} (x : Tag) (h : i ≠ k) : upT t k x i = t i := by simp [upT, h]
end Go.Proofs.YtgboboljgcfggaaGreatDoor
namespace Go.Proofs.YtgboboljgcfggaaGreatDoor
open Go.RowKit
def stopC (c : Int) : List PanicEntry := [{ v := .iface 187 (.agg #[iv c]), recovered := false }]
set_option maxRecDepth 100000 in
theorem fault_any (c : Int) (w : World) :
    Calls Tryz.prog 105 #[iv c] w fun e w' => e = .panicked (stopC c) ∧ w' = w := by
  unfold stopC
  go_enter Tryz.func105, Tryz.ntmps105
  go_wp2
  exact ⟨rfl, rfl, rfl⟩
set_option maxRecDepth 100000 in
theorem top_any (rb fb : Nat) (n c : Nat) (w : World) (hn : 0 < n) (hn2 : n ≤ 1000000) (c3 : w.cell? ⟨rb, 3, none⟩ = some (.slice (some ⟨fb, 0, none⟩) n c)) :
    Calls Tryz.prog 106 #[.pointer (some ⟨rb, 0, none⟩)] w fun e w' => e = .returned (.pointer (some ⟨fb, (n - 1) * 3, none⟩)) ∧ ∃ k, w' = w.drewN k := by
  have e1 : IntKind.i64.wrap ((n : Int) - 1) = (n : Int) - 1 := IntWalk.i64_in _ (by omega)
  have e2 : ((n : Int) - 1).toNat = n - 1 := by omega
  have e3 : 0 ≤ (n : Int) - 1 := by omega
  have e4 : n - 1 < n := by omega
  have e5 : (n : Int) - 1 < (n : Int) := by omega
  go_enter Tryz.func106, Tryz.ntmps106
  go_wp2
  go_quiet (fail)
  go_wp2
  go_ret
  exact ⟨rfl, _, rfl⟩
def PopP (b : Bl) (p : Prg) (w : World) (g n c : Nat) (fv : Value) (steps seed : Int) (done : Bool) (err : Int) (v : Value) (e : Ending) (w' : World) : Prop :=
  e = .returned v ∧ w.grownBy w' (some b.rb) ∧ RB b p w' (.slice (some ⟨g, 0, none⟩) (n - 1) c) fv steps seed done err
theorem PopP.mk {b : Bl} {p : Prg} {w : World} {g n c : Nat} {fv : Value} {steps seed : Int} {done : Bool} {err : Int} {v : Value} {sv : Value} (h : RB b p w sv fv steps seed done err) (o o' : Obj) (k : Nat) :
    PopP b p w g n c fv steps seed done err v (.returned v) (((((w.setCell ⟨b.rb, 2, none⟩ (.slice (some ⟨g, 0, none⟩) (n - 1) c)).alloc o).alloc o')).drewN k) :=
  ⟨rfl, (((grown_setR _ _ _).trans (grown_alloc _ _ _)).trans (grown_alloc _ _ _)).trans (grown_drewN _ _ _), (((h.s_sv _).alloc o).alloc o')⟩
set_option maxRecDepth 100000 in
set_option maxHeartbeats 2000000 in
theorem pop_some (b : Bl) (p : Prg) (g n c : Nat) (fv : Value) (steps seed : Int) (done : Bool) (err : Int) (x : AV) (w : World) (hn : 0 < n) (hn2 : n ≤ 1000000) (hnc : n ≤ c) (hg : g < w.heap.size)
    (hR : RB b p w (.slice (some ⟨g, 0, none⟩) n c) fv steps seed done err) (hx : ∀ i, i < 8 → w.cell? ⟨g, (n - 1) * 8 + i, none⟩ = x.cs[i]?) :
    Calls Tryz.prog 145 #[.pointer (some ⟨b.rb, 0, none⟩)] w (PopP b p w g n c fv steps seed done err x.v) := by
  have e1 : IntKind.i64.wrap ((n : Int) - 1) = (n : Int) - 1 := IntWalk.i64_in _ (by omega)
  have e2 : ((n : Int) - 1).toNat = n - 1 := by omega
  have e3 : 0 ≤ (n : Int) - 1 := by omega
  have e4 : n - 1 < n := by omega
  have e5 : (n : Int) - 1 < (n : Int) := by omega
  have e6 : ¬ n = 0 := by omega
  have e7 : (1 : Int) ≤ n := by omega
  have e8 : (n : Int) - 1 ≤ c := by omega
  have e9 : (n : Int) ≤ (c : Int) + 1 := by omega
  have hr := hR.lt
  have c2 := hR.c 2
  have f2 := hR.f 2
  simp [rcs] at c2
  have HR := Lib.hid hR
  clear hR
  have d2 := fun o => cell_al c2 hr o
  have d3 := fun o o' => cell_al (d2 o) (by simp; omega) o'
  have q0 := hx 0 (by omega)
  have q1 := hx 1 (by omega)
  have q2 := hx 2 (by omega)
  have q3 := hx 3 (by omega)
  have q4 := hx 4 (by omega)
  have q5 := hx 5 (by omega)
  have q6 := hx 6 (by omega)
  have q7 := hx 7 (by omega)
  simp [AV.cs] at q0 q1 q2 q3 q4 q5 q6 q7
  have r0 := fun o => cell_al q0 hg o
  have r1 := fun o => cell_al q1 hg o
  have r2 := fun o => cell_al q2 hg o
  have r3 := fun o => cell_al q3 hg o
  have r4 := fun o => cell_al q4 hg o
  have r5 := fun o => cell_al q5 hg o
  have r6 := fun o => cell_al q6 hg o
  have r7 := fun o => cell_al q7 hg o
  have s0 := fun o o' => cell_al (r0 o) (by simp; omega) o'
  have s1 := fun o o' => cell_al (r1 o) (by simp; omega) o'
  have s2 := fun o o' => cell_al (r2 o) (by simp; omega) o'
  have s3 := fun o o' => cell_al (r3 o) (by simp; omega) o'
  have s4 := fun o o' => cell_al (r4 o) (by simp; omega) o'
  have s5 := fun o o' => cell_al (r5 o) (by simp; omega) o'
  have s6 := fun o o' => cell_al (r6 o) (by simp; omega) o'
  have s7 := fun o o' => cell_al (r7 o) (by simp; omega) o'
  have u1 : IntKind.i64.wrap (n : Int) = n := IntWalk.i64_in _ (by omega)
  clear hx
  unfold AV.v
  generalize x.kind = X0 at *
  generalize x.int = X1 at *
  generalize x.A = X2 at *
  generalize x.list.length = X3 at *
  generalize x.c = X4 at *
  generalize x.block = X5 at *
  go_enter Tryz.func145, Tryz.ntmps145
  go_wp2
  go_region_held3 (fun W => W.cell? ⟨b.rb, 2, none⟩ = some (.slice (some ⟨g, 0, none⟩) n c) ∧ W.cell? ⟨g, (n - 1) * 8, none⟩ = some (Value.int .i64 X0) ∧ W.cell? ⟨g, (n - 1) * 8 + 1, none⟩ = some (Value.int .i64 X1) ∧ W.cell? ⟨g, (n - 1) * 8 + 2, none⟩ = some (Value.slice X2 X3 X4) ∧ W.cell? ⟨g, (n - 1) * 8 + 3, none⟩ = some (Value.int .i64 X5) ∧ W.cell? ⟨g, (n - 1) * 8 + 4, none⟩ = some (Value.string { data := #[] }) ∧ W.cell? ⟨g, (n - 1) * 8 + 5, none⟩ = some (Value.string { data := #[] }) ∧ W.cell? ⟨g, (n - 1) * 8 + 6, none⟩ = some (Value.slice none 0 0) ∧ W.cell? ⟨g, (n - 1) * 8 + 7, none⟩ = some (Value.slice none 0 0)) (first | exact ⟨d3 _ _, s0 _ _, s1 _ _, s2 _ _, s3 _ _, s4 _ _, s5 _ _, s6 _ _, s7 _ _⟩ | exact ⟨d2 _, r0 _, r1 _, r2 _, r3 _, r4 _, r5 _, r6 _, r7 _⟩) (fail)
  all_goals go_wp2
  all_goals go_region_law (fail)
  all_goals go_wp2
  all_goals
    refine bodyPost_ret (v := .agg #[iv X0, iv X1, .slice X2 X3 X4, iv X5, eSm, eSm, nilS, nilS]) (by simp [results, Tryz.results145, go_sem]) rfl (PopP.mk HR.out _ _ 2)
set_option maxRecDepth 100000 in
theorem pop_none (b : Bl) (p : Prg) (A : Option Addr) (c : Nat) (fv : Value) (steps seed : Int) (done : Bool) (err : Int) (w : World) (hR : RB b p w (.slice A 0 c) fv steps seed done err) :
    Calls Tryz.prog 145 #[.pointer (some ⟨b.rb, 0, none⟩)] w fun e w' => e = .panicked (stopC 26) ∧ w.grownBy w' none := by
  have hr := hR.lt
  have c2 := hR.c 2
  simp [rcs] at c2
  have d2 := fun o => cell_al c2 hr o
  have FA := fun W => fault_any 26 W
  have HFA := Lib.hid FA
  clear hR FA
  go_enter Tryz.func145, Tryz.ntmps145
  go_wp2_with (go_at_call 105; refine (HFA.out _).mono ?_; rintro e w1 ⟨rfl, rfl⟩)
  exact ⟨rfl, rfl, grown_alloc _ _ _⟩
end Go.Proofs.YtgboboljgcfggaaGreatDoor
namespace Go.Proofs.YtgboboljgcfggaaGreatDoor
open Go.RowKit
theorem Mem.one {b : Bl} {w w' : World} {g g' : Gh} (h : Mem b w g) (os : w'.os = w.os) (tape : w'.tape = w.tape) (output : w'.output = w.output) (hs : w.heap.size ≤ w'.heap.size) (X : Nat → Prop) (ex : Nat) (hxe : X ex) (hB : ∀ k, X k → b.B ≤ k) (hlt : ex < w'.heap.size)
    (hex : ∀ k, X k → k < w.heap.size → g.tag k = .own ∧ ∃ cur T, w.heap[k]? = some (.cells cur T (0, 0)) ∧ (T = 56 ∨ T = 158)) (hk : ∀ k, k < w.heap.size → ¬ X k → (k < b.B ∨ g.tag k ≠ .no) → w'.heap[k]? = w.heap[k]?)
    (htag : g'.tag = upT g.tag ex .own) (hR : g'.R = g.R) (st : w'.ownsRow b.B 56 8 g'.sv g'.S.length (g'.S.flatMap AV.cs)) (stt : ∀ k, g'.sv.ownBlock = some k → k = ex ∨ g.tag k = .own)
    (fr : w'.ownsRow b.B 158 3 g'.fv g'.F.length (g'.F.flatMap Fr.cs)) (frt : ∀ k, g'.fv.ownBlock = some k → k = ex ∨ g.tag k = .own)
    (sr : ∀ x ∈ g'.S, LRd b.B g.tag w x.A x.c x.list) (fl : ∀ (d : Nat) f, g'.F[d]? = some f → FOk b.B g.tag w d f) (kb : ∀ k, k < w.heap.size → ¬ X k → g.tag k = .no → w'.heap[k]? = w.heap[k]?) : Mem b w' g' ∧ Ch w g w' g' := by
  have T3 : ∀ {k : Nat} {o : Obj}, w.heap[k]? = some o → (∀ cur T, o = .cells cur T (0, 0) → T = 56 ∨ T = 158 → False) → ¬ X k := fun {k o} hk1 ho e => by
    obtain ⟨_, cur, T, h1, h2⟩ := hex k e (heap_ltM hk1)
    rw [h1] at hk1
    exact ho cur T (Option.some.inj hk1).symm h2
  have nt : ∀ {k : Nat}, k < w.heap.size → g.tag k ≠ .own → ¬ X k := fun {k} hk1 ht e => ht (hex k e hk1).1
  have own : ∀ {k : Nat}, g.tag k = .own → g.tag k ≠ .no := fun h => by rw [h]; simp
  have tg : ∀ k, k ≠ ex → g'.tag k = g.tag k := fun k hk => by rw [htag, upT_ne _ _ hk]
  have nX : ∀ {k : Nat}, ¬ X k → k ≠ ex := fun h e => h (e ▸ hxe)
  have le : ∀ k, k < w.heap.size → (g.tag k).le (g'.tag k) := fun k hk1 => by
    by_cases e : k = ex
    · subst e
      rw [(hex k hxe hk1).1, htag, upT_at]
      exact rfl
    · rw [tg k e]; exact Tag.le_refl _
  have keep : ∀ {k : Nat} {o : Obj}, w.heap[k]? = some o → (∀ cur T, o = .cells cur T (0, 0) → T = 56 ∨ T = 158 → False) → g.tag k ≠ .no → w'.heap[k]? = some o := fun {k o} h1 h2 h3 => (hk k (heap_ltM h1) (T3 h1 h2) (.inr h3)).trans h1
  have cells : ∀ p : Addr, p.block < w.heap.size → sta b.B g.tag p → w'.cell? p = w.cell? p := fun p hp hs => by
    refine World.cell?_of_block (w := w) ?_
    by_cases hB' : p.block < b.B
    · exact hk _ hp (fun e => by have := hB _ e; omega) (.inl hB')
    · have : g.tag p.block ≠ .no ∧ g.tag p.block ≠ .own := by
        rcases hs with h1 | h1 | ⟨lo, sz, h1, _⟩ | ⟨d, hi, h1, _⟩
        · exact absurd h1 hB'
        · rw [h1]; simp
        · rw [h1]; simp
        · rw [h1]; simp
      exact hk _ hp (nt hp this.2) (.inr this.1)
  have to54 : ∀ {k : Nat}, k = ex ∨ g.tag k = .own → g'.tag k = .own := fun {k} h => by
    by_cases e : k = ex
    · subst e; rw [htag, upT_at]
    · rw [tg k e]; exact h.resolve_left e
  have eoT := keep h.eo (by simp) (own h.et)
  have toT := keep h.to (by intro cur T h1 h2; cases h1; rcases h2 with h2 | h2 <;> cases h2) (own h.tt)
  obtain ⟨es, clk, m1, m2⟩ := h.mo
  have hBx := hB ex hxe
  refine ⟨{ os := os.trans h.os, tape := tape.trans h.tape, output := output.trans h.output, hs := Nat.le_trans h.hs hs, old := ?_, lo := ?_, new := ?_, rt := to54 (.inr h.rt), rbb := h.rbb, et := to54 (.inr h.et), eo := eoT, tt := to54 (.inr h.tt), to := toT, mt := to54 (.inr h.mt), mbb := h.mbb, mo := ⟨es, clk, keep m1 (by simp) (own h.mt), by rw [hR]; exact m2⟩, st := st, stt := fun k e => to54 (stt k e), fr := fr, frt := fun k e => to54 (frt k e), sr := fun x hx => (sr x hx).mono hs le cells, fl := ?_, rm := ?_, ra := by rw [hR]; exact h.ra }, ⟨os, tape, output, hs, ?_, le⟩⟩
  · intro k hkB
    have := h.hs
    exact (hk k (by omega) (fun e => by have := hB _ e; omega) (.inl hkB)).trans (h.old k hkB)
  · intro k hkB
    rw [tg k (by omega)]
    exact h.lo k hkB
  · intro k hk'
    rw [tg k (by omega)]
    exact h.new k (Nat.le_trans hs hk')
  · exact fun d f hd => (fl d f hd).mono hs le cells fun k hi hkB hk' ht => ⟨by rw [tg k (nX (nt hk' (by rw [ht]; simp))), ht], hk k hk' (nt hk' (by rw [ht]; simp)) (.inr (by rw [ht]; simp))⟩
  · intro r hr
    rw [hR] at hr
    have q := h.rm r hr
    obtain ⟨cur, q1, q2⟩ := q.a
    have q3 := q.at_
    refine { q with o := keep q.o (by intro cur T h1 h2; cases h1; rcases h2 with h2 | h2 <;> cases h2) (own q.ot), ot := to54 (.inr q.ot), a := ⟨cur, (hk _ (heap_ltM q1) (nt (heap_ltM q1) (by rw [q3]; simp)) (.inr (by rw [q3]; simp))).trans q1, q2⟩, at_ := ?_ }
    rw [tg _ (nX (nt (heap_ltM q1) (by rw [q3]; simp))), q3]
  · intro k hk1 ht
    have hX : ¬ X k := fun e => by rw [(hex k e hk1).1] at ht; cases ht
    by_cases h0 : g.tag k = .no
    · exact kb k hk1 hX h0
    · exact hk k hk1 hX (.inr h0)
def st8 (w : World) (g o : Nat) (x : AV) : World :=
  (((((((w.setCell ⟨g, o, none⟩ (iv x.kind)).setCell ⟨g, o + 1, none⟩ (iv x.int)).setCell ⟨g, o + 2, none⟩ (.slice x.A x.list.length x.c)).setCell ⟨g, o + 3, none⟩ (iv x.block)).setCell ⟨g, o + 4, none⟩ eSm).setCell ⟨g, o + 5, none⟩ eSm).setCell ⟨g, o + 6, none⟩ nilS).setCell ⟨g, o + 7, none⟩ nilS
theorem st8_other (w : World) (g o : Nat) (x : AV) (k : Nat) (h : k ≠ g) : (st8 w g o x).heap[k]? = w.heap[k]? := by
  unfold st8
  iterate 8 rw [Below.heap_setCell _ _ _ _ h]
theorem st8_size (w : World) (g o : Nat) (x : AV) : (st8 w g o x).heap.size = w.heap.size := by simp [st8]
theorem st8_heap {w : World} {g o : Nat} {x : AV} {cur : Array Value} {e : TypeId} {fz : Nat × Nat} (h : w.heap[g]? = some (.cells cur e fz)) :
    (st8 w g o x).heap[g]? = some (.cells ((((((((cur.setIfInBounds o (iv x.kind)).setIfInBounds (o + 1) (iv x.int)).setIfInBounds (o + 2) (.slice x.A x.list.length x.c)).setIfInBounds (o + 3) (iv x.block)).setIfInBounds (o + 4) eSm).setIfInBounds (o + 5) eSm).setIfInBounds (o + 6) nilS).setIfInBounds (o + 7) nilS) e fz) :=
  heap_set (heap_set (heap_set (heap_set (heap_set (heap_set (heap_set (heap_set h _ _) _ _) _ _) _ _) _ _) _ _) _ _) _ _
theorem st8_row {w : World} {B gg cc n : Nat} {xs : List Value} {z : List Value} (h : w.ownsRow B 56 8 (.slice (some ⟨gg, 0, none⟩) (n + 1) cc) (n + 1) (xs ++ z)) (hx : xs.length = n * 8) (x : AV) :
    (st8 w gg (n * 8) x).ownsRow B 56 8 (.slice (some ⟨gg, 0, none⟩) (n + 1) cc) (n + 1) (xs ++ x.cs) := by
  rcases h.2 with ⟨h1, _⟩ | ⟨g, cap, cur, e, hb, hg, hnc, hm, hcs, ht⟩
  · cases h1
  · simp only [Value.slice.injEq, Option.some.injEq, Addr.mk.injEq, and_true, true_and] at e
    obtain ⟨rfl, rfl⟩ := e
    refine ⟨by simp [hx, AV.cs_len]; omega, .inr ⟨gg, cc, _, rfl, hb, st8_heap hg, hnc, hm, by simpa using hcs, ?_⟩⟩
    apply List.ext_getElem
    · simp [hx, AV.cs_len, hcs]; omega
    · intro i h1 h2
      have hl : (n + 1) * 8 ≤ cur.size := by rw [hcs]; exact Nat.mul_le_mul_right 8 hnc
      have hi : i < (n + 1) * 8 := by simp [hx, AV.cs_len] at h2; omega
      have ht' : i < n * 8 → cur.toList[i]? = xs[i]? := fun hlt => by
        have := congrArg (fun l => l[i]?) ht
        simp only [List.getElem?_take, hi, if_true] at this
        rw [this, List.getElem?_append_left (by omega)]
      rw [← Option.some_inj, ← List.getElem?_eq_getElem, ← List.getElem?_eq_getElem, List.getElem?_take, if_pos hi]
      by_cases hlt : i < n * 8
      · rw [List.getElem?_append_left (by omega), ← ht' hlt]
        simp only [Array.toList_setIfInBounds]
        rw [List.getElem?_set_ne (by omega), List.getElem?_set_ne (by omega), List.getElem?_set_ne (by omega), List.getElem?_set_ne (by omega), List.getElem?_set_ne (by omega), List.getElem?_set_ne (by omega), List.getElem?_set_ne (by omega), List.getElem?_set_ne (by omega)]
      · obtain ⟨j, rfl⟩ : ∃ j, i = n * 8 + j := ⟨i - n * 8, by omega⟩
        have hj : j < 8 := by omega
        rw [List.getElem?_append_right (by omega), show n * 8 + j - xs.length = j by omega]
        have : j = 0 ∨ j = 1 ∨ j = 2 ∨ j = 3 ∨ j = 4 ∨ j = 5 ∨ j = 6 ∨ j = 7 := by omega
        rcases this with rfl | rfl | rfl | rfl | rfl | rfl | rfl | rfl
        all_goals
          simp only [Array.toList_setIfInBounds]
          simp [List.getElem?_set, AV.cs]
          first | done | omega | (intros; omega)
end Go.Proofs.YtgboboljgcfggaaGreatDoor
namespace Go.Proofs.YtgboboljgcfggaaGreatDoor
open Go.RowKit
theorem list_own (w : World) {ops : Array Oper} {rest : List Oper} {o : Oper} {a : Act} {Q : Exit → Act → World → Prop} (hgd : o.guard = none) (s x : Operand) (t : TypeId)
    (hop : o.op = Op.call { callee := Callee.builtin Builtin.append, args := #[s, x], argTypes := #[t, t] })
    (v v2 : Value) (X : Value → World → Prop) (hs : a.eval s = v) (hx : a.eval x = v2)
    (hrun : ∃ v' w', (Builtin.append_ #[t, t] o.type #[v, v2]).run Tryz.prog w = .ok v' w' ∧ X v' w')
    (hK : ∀ v' w', X v' w' → wpList Tryz.prog ops Q rest (a.put o.dst v') w') : wpList Tryz.prog ops Q (o :: rest) a w := by
  refine wpList_plain hgd fun K hK' => ?_
  obtain ⟨v', w', hrun, hX⟩ := hrun
  unfold Oper.wp execOp
  simp only [hop, resolve, invoke, builtin, Sem.run_bind, Sem.run_pure, Result.andThen_ok, List.map_toArray, List.map_cons, List.map_nil, hs, hx, hrun]
  exact hK' _ _ (hK _ _ hX)
abbrev z8 : Array Value := #[.int .i64 0, .int .i64 0, .slice none 0 0, .int .i64 0, .string ⟨#[]⟩, .string ⟨#[]⟩, .slice none 0 0, .slice none 0 0]
structure App (b : Bl) (W : World) (g : Gh) (n gg c : Nat) (w' : World) : Prop where
  cell : ∀ i, i < 8 → w'.cell? ⟨gg, n * 8 + i, none⟩ = z8[i]?
  fz : ∀ j, w'.frozen? ⟨gg, j, none⟩ = false
  ne : b.rb ≠ gg
  rc : w'.cell? ⟨b.rb, 2, none⟩ = some g.sv
  rf : w'.frozen? ⟨b.rb, 2, none⟩ = false
  row : w'.ownsRow b.B 56 8 (.slice (some ⟨gg, 0, none⟩) (n + 1) c) (n + 1) (g.S.flatMap AV.cs ++ z8.toList)
  gr : W.grownBy w' g.sv.ownBlock
  own : g.sv.ownBlock = some gg ∨ gg = W.heap.size
def AppX (b : Bl) (W : World) (g : Gh) (n : Nat) (v' : Value) (w' : World) : Prop := ∃ gg c, v' = .slice (some ⟨gg, 0, none⟩) (n + 1) c ∧ App b W g n gg c w'
theorem flat_lenM {α : Type} (f : α → List Value) (m : Nat) (h : ∀ x, (f x).length = m) (l : List α) : (l.flatMap f).length = l.length * m := by
  induction l with
  | nil => simp
  | cons x l ih => simp [h, ih, Nat.add_mul]; omega
theorem flat8 (l : List AV) : (l.flatMap AV.cs).length = l.length * 8 := flat_lenM _ 8 AV.cs_len l
theorem flat3 (l : List Fr) : (l.flatMap Fr.cs).length = l.length * 3 := flat_lenM _ 3 Fr.cs_len l
theorem one8 : ∀ u ∈ z8.toList, u.oneCell' = true := by decide
theorem al_newM (w : World) (o : Obj) : (w.alloc o).heap[w.heap.size]? = some o := (MapKept.heap_alloc w o).1
theorem app_run {b : Bl} {p : Prg} {W : World} {g : Gh} {steps seed : Int} {done : Bool} {err : Int} (hm : Mem b W g) (hR : RB b p W g.sv g.fv steps seed done err) (hn : g.S.length ≤ 1000000)
    (k : Nat) (hk : W.heap[k]? = some (.cells z8 56 (0, 0))) (ty : TypeId) (n : Nat) (hnn : n = g.S.length) :
    ∃ v' w', (Builtin.append_ #[47, 47] ty #[g.sv, .slice (some ⟨k, 0, none⟩) 1 1]).run Tryz.prog W = .ok v' w' ∧ AppX b W g n v' w' := by
  subst hnn
  obtain ⟨i0, hi, hz0, hz1, hz2⟩ := info_parts info54
  have hnew : ∀ (j : Nat) u, z8.toList[j]? = some u → W.cell? ((⟨k, 0, none⟩ : Addr).add j) = some u := fun j u hu => by
    have : ((⟨k, 0, none⟩ : Addr).add j) = ⟨k, j, none⟩ := by unfold Addr.add; split <;> simp [*]
    rw [this]
    simp only [World.cell?, hk]
    simpa using hu
  obtain ⟨v', w', hrun, h2, h3, h4, h5⟩ := run_append_own_at (P := Tryz.prog) (w := W) b.B 47 ty 56 i0 _ 8 128 Tryz.underlying47 hi hz0 hz1 hz2 rfl (by decide) g.sv g.S.length (g.S.flatMap AV.cs) hm.st ⟨k, 0, none⟩ 1 1 z8.toList rfl hnew
    one8 (by unfold maxLen; omega) (by omega) hm.hs
  refine ⟨v', w', hrun, ?_⟩
  rcases h2.2 with ⟨_, h⟩ | ⟨gg, cap, cur, rfl, hb, hg, hnc, hmx, hcs, ht⟩
  · omega
  · have nrb : b.rb ≠ gg := fun e => by
      subst e
      rcases h5 with h5 | h5
      · rcases hm.st.2 with ⟨e, _⟩ | ⟨g2, cap2, cur2, e, _, hg2, _⟩
        · rw [e] at h5; cases h5
        · rw [e] at h5
          have : b.rb = g2 := by simpa [Value.ownBlock] using h5
          subst this
          have := hR.symm.trans hg2
          simp at this
      · have := hR.lt
        have : b.rb = W.heap.size := by simpa [Value.ownBlock] using h5
        omega
    have rk : w'.heap[b.rb]? = W.heap[b.rb]? := h3.block _ hR.lt fun e => by
      rcases hm.st.2 with ⟨e2, _⟩ | ⟨g2, cap2, cur2, e2, _, hg2, _⟩
      · rw [e2] at e; cases e
      · rw [e2] at e
        have : b.rb = g2 := by simpa [Value.ownBlock] using e
        subst this
        have := hR.symm.trans hg2
        simp at this
    have hR' := hR.keep rk
    refine ⟨gg, cap, rfl, ⟨?_, ?_, nrb, by rw [hR'.c]; rfl, hR'.f 2, h2, h3, ?_⟩⟩
    · intro i hi8
      rw [World.ownsRow.cellAt h2 _ (by omega), List.getElem?_append_right (by rw [flat8]; omega), flat8]
      simp
    · exact fun j => World.ownsRow.frozenAt h2 j
    · rcases h5 with h5 | h5
      · exact .inl h5.symm
      · exact .inr (by simpa [Value.ownBlock] using h5)
theorem st8_os (w : World) (g o : Nat) (x : AV) : (st8 w g o x).os = w.os ∧ (st8 w g o x).tape = w.tape ∧ (st8 w g o x).output = w.output := by simp [st8, World.setCell]
def PushP (b : Bl) (p : Prg) (w : World) (g : Gh) (x : AV) (steps seed : Int) (done : Bool) (err : Int) (e : Ending) (w' : World) : Prop :=
  e = .returned (.tuple #[]) ∧ ∃ g', Mem b w' g' ∧ Ch w g w' g' ∧ g'.S = g.S ++ [x] ∧ g'.F = g.F ∧ g'.fv = g.fv ∧ g'.R = g.R ∧ RB b p w' g'.sv g'.fv steps seed done err
set_option maxHeartbeats 1000000 in
theorem PushP.mk {b : Bl} {p : Prg} {w W : World} {g : Gh} {x : AV} {steps seed : Int} {done : Bool} {err : Int} {n gg c : Nat} {w2 : World} (hm : Mem b w g) (hR : RB b p w g.sv g.fv steps seed done err) (hx : LRd b.B g.tag w x.A x.c x.list)
    (hW : w.grownBy W none) (ha : App b W g n gg c w2) (hn : n = g.S.length) :
    PushP b p w g x steps seed done err (.returned (.tuple #[])) ((st8 w2 gg (n * 8) x).setCell ⟨b.rb, 2, none⟩ (.slice (some ⟨gg, 0, none⟩) (n + 1) c)) := by
  subst hn
  have hmW : Mem b W g := hm.keep hW.os hW.tape hW.output hW.size w.heap.size (by intro h; omega) fun k hk _ _ => hW.block k hk (by simp)
  have hRW : RB b p W g.sv g.fv steps seed done err := hR.keep (hW.block _ hR.lt (by simp))
  have hxW : LRd b.B g.tag W x.A x.c x.list := hx.mono hW.size (fun _ _ => Tag.le_refl _) fun q hq _ => World.cell?_of_block (w := w) (hW.block _ hq (by simp))
  have hrow := st8_row ha.row (by rw [flat8]) x
  have hB : b.B ≤ gg := (World.ownsRow.lt ha.row gg rfl).1
  have hlt : gg < w2.heap.size := (World.ownsRow.lt ha.row gg rfl).2
  have hX : ∀ k, k = gg ∨ g.sv.ownBlock = some k → k < W.heap.size → g.tag k = .own ∧ ∃ cur T, W.heap[k]? = some (.cells cur T (0, 0)) ∧ (T = 56 ∨ T = 158) := fun k hk hl => by
    have : g.sv.ownBlock = some k := by
      rcases hk with rfl | h
      · rcases ha.own with h | h
        · exact h
        · omega
      · exact h
    refine ⟨hmW.stt k this, ?_⟩
    rcases hmW.st.2 with ⟨e, _⟩ | ⟨g2, cap2, cur2, e, _, hg2, _⟩
    · rw [e] at this; cases this
    · rw [e] at this
      have : k = g2 := by simpa [Value.ownBlock] using this.symm
      subst this
      exact ⟨_, _, hg2, .inl rfl⟩
  have hrest : ∀ k, k < W.heap.size → ¬ (k = gg ∨ g.sv.ownBlock = some k) → (st8 w2 gg (g.S.length * 8) x).heap[k]? = W.heap[k]? := fun k hk hne =>
    (st8_other _ _ _ _ _ (fun e => hne (.inl e))).trans (ha.gr.block k hk fun e => hne (.inr e.symm))
  have hs2 : W.heap.size ≤ (st8 w2 gg (g.S.length * 8) x).heap.size := by rw [st8_size]; exact ha.gr.size
  have own2 : ∀ k, g.sv.ownBlock = some k → ∃ cur, W.heap[k]? = some (.cells cur 56 (0, 0)) := fun k h => by
    rcases hmW.st.2 with ⟨e, _⟩ | ⟨g2, cap2, cur2, e, _, hg2, _⟩
    · rw [e] at h; cases h
    · rw [e] at h
      have : k = g2 := by simpa [Value.ownBlock] using h.symm
      subst this
      exact ⟨_, hg2⟩
  have hfr : (st8 w2 gg (g.S.length * 8) x).ownsRow b.B 158 3 g.fv g.F.length (g.F.flatMap Fr.cs) := row_keep hmW.fr fun k cur e1 e2 => hrest k (heap_ltM e2) fun e => by
    have h1 : g.sv.ownBlock = some k := by
      rcases e with rfl | h
      · rcases ha.own with h | h
        · exact h
        · have := heap_ltM e2; omega
      · exact h
    obtain ⟨cur', h2⟩ := own2 k h1
    rw [e2] at h2
    simp at h2
  have hst : (st8 w2 gg (g.S.length * 8) x).ownsRow b.B 56 8 (.slice (some ⟨gg, 0, none⟩) (g.S.length + 1) c) (g.S ++ [x]).length ((g.S ++ [x]).flatMap AV.cs) := by
    have e1 : (g.S ++ [x]).length = g.S.length + 1 := by simp
    have e2 : (g.S ++ [x]).flatMap AV.cs = g.S.flatMap AV.cs ++ x.cs := by simp
    rw [e1, e2]
    exact hrow
  have hsr : ∀ y ∈ g.S ++ [x], LRd b.B g.tag W y.A y.c y.list := fun y hy => by
    rcases List.mem_append.1 hy with h | h
    · exact hmW.sr y h
    · rw [List.mem_singleton] at h; subst h; exact hxW
  have hB2 : ∀ k, k = gg ∨ g.sv.ownBlock = some k → b.B ≤ k := fun k hk => by
    rcases hk with rfl | h
    · exact hB
    · exact (World.ownsRow.lt hmW.st k h).1
  have hlt2 : gg < (st8 w2 gg (g.S.length * 8) x).heap.size := by rw [st8_size]; exact hlt
  have hsv2 : ∀ k, (Value.slice (some ⟨gg, 0, none⟩) (g.S.length + 1) c).ownBlock = some k → k = gg ∨ g.tag k = .own := fun k e => .inl (by simpa [Value.ownBlock] using e.symm)
  have q1 : (st8 w2 gg (g.S.length * 8) x).os = W.os := (st8_os _ _ _ _).1.trans ha.gr.os
  have q2 : (st8 w2 gg (g.S.length * 8) x).tape = W.tape := (st8_os _ _ _ _).2.1.trans ha.gr.tape
  have q3 : (st8 w2 gg (g.S.length * 8) x).output = W.output := (st8_os _ _ _ _).2.2.trans ha.gr.output
  generalize st8 w2 gg (g.S.length * 8) x = W3 at *
  obtain ⟨m1, c1⟩ := Mem.one (g' := { g with tag := upT g.tag gg .own, S := g.S ++ [x], sv := .slice (some ⟨gg, 0, none⟩) (g.S.length + 1) c }) hmW q1 q2 q3 hs2 (fun k => k = gg ∨ g.sv.ownBlock = some k) gg (.inl rfl)
    hB2 hlt2 hX (fun k hk hne _ => hrest k hk hne) rfl rfl hst hsv2 hfr (fun k e => .inr (hmW.frt k e)) hsr hmW.fl (fun k hk hne _ => hrest k hk hne)
  have hR2 : RB b p W3 g.sv g.fv steps seed done err := hRW.keep (hrest _ hRW.lt fun e => by
    rcases e with e | e
    · exact ha.ne e
    · obtain ⟨cur', h2⟩ := own2 _ e
      have := hRW.symm.trans h2
      simp at this)
  exact ⟨rfl, _, m1.only (grown_setR b.rb 2 _) hR2, ((Ch.grown hW).trans c1).trans (Ch.only m1 (grown_setR _ _ _)), rfl, rfl, rfl, rfl, hR2.s_sv _⟩
end Go.Proofs.YtgboboljgcfggaaGreatDoor
namespace Go.Proofs.YtgboboljgcfggaaGreatDoor
open Go.RowKit
section
variable {o : Oper} {a : Act} {w : World}
theorem op_len {x : Tmp} {T : TypeId} {A : Option Addr} {n c : Nat} (hd : o.dst.isSome = true) (hT : T = 47 ∨ T = 48 ∨ T = 67) (ho : o.op = .call { callee := .builtin .len, args := #[.tmp x], argTypes := #[T] }) (h : a.eval (.tmp x) = .slice A n c) : (execOp a.eval o).run Tryz.prog w = .ok (nx o (.int .i64 n)) w := by
  rw [nx_some hd]
  unfold Act.eval at h
  obtain ⟨d, op, t, ps, af, gu⟩ := o
  simp only at ho
  subst ho
  rcases hT with rfl | rfl | rfl <;> go_simp
theorem op_load1M {x : Tmp} {T : TypeId} {p : Addr} {v : Value} (hd : o.dst.isSome = true) (hT : T = 47 ∨ T = 48 ∨ T = 3 ∨ T = 42 ∨ T = 160 ∨ T = 23 ∨ T = 67 ∨ T = 9 ∨ T = 162 ∨ T = 163 ∨ T = 27 ∨ T = 4) (ho : o.op = .load T (.tmp x)) (h : a.eval (.tmp x) = .pointer (some p)) (hc : w.cell? p = some v) : (execOp a.eval o).run Tryz.prog w = .ok (nx o v) w := by
  rw [nx_some hd]
  unfold Act.eval at h
  obtain ⟨d, op, t, ps, af, gu⟩ := o
  simp only at ho
  subst ho
  rcases hT with rfl | rfl | rfl | rfl | rfl | rfl | rfl | rfl | rfl | rfl | rfl | rfl <;> go_simp
theorem op_load54 {x : Tmp} {g : Nat} {f : Nat} {vs : List Value} (hl : vs.length = 8) (hd : o.dst.isSome = true) (ho : o.op = .load 56 (.tmp x)) (h : a.eval (.tmp x) = .pointer (some ⟨g, f, none⟩)) (hc : ∀ i, i < 8 → w.cell? ⟨g, f + i, none⟩ = vs[i]?) : (execOp a.eval o).run Tryz.prog w = .ok (nx o (.agg vs.toArray)) w := by
  rw [nx_some hd]
  match vs, hl with
  | [x0, x1, x2, x3, x4, x5, x6, x7], _ =>
    have q0 := hc 0 (by omega)
    have q1 := hc 1 (by omega)
    have q2 := hc 2 (by omega)
    have q3 := hc 3 (by omega)
    have q4 := hc 4 (by omega)
    have q5 := hc 5 (by omega)
    have q6 := hc 6 (by omega)
    have q7 := hc 7 (by omega)
    simp at q0 q1 q2 q3 q4 q5 q6 q7
    clear hc hd
    unfold Act.eval at h
    obtain ⟨d, op, t, ps, af, gu⟩ := o
    simp only at ho
    subst ho
    go_simp
def faL : List (Nat × Nat × Nat) := [(165, 0, 0), (165, 1, 8), (165, 2, 9), (50, 0, 0), (50, 1, 2), (50, 2, 3), (50, 3, 4), (50, 4, 5), (50, 5, 6), (50, 6, 7), (26, 0, 0), (158, 0, 0), (158, 1, 1), (158, 2, 2), (69, 0, 0), (69, 2, 2), (71, 0, 0), (71, 1, 1), (71, 2, 2), (71, 3, 3), (56, 0, 0), (56, 1, 1), (56, 2, 2), (56, 3, 3), (236, 0, 0), (236, 1, 1)]
theorem op_fa {x : Tmp} {T : TypeId} {i k g f : Nat} (hd : o.dst.isSome = true) (hT : faL.contains (T, i, k) = true)
    (ho : o.op = .fieldAddr T (.tmp x) i) (h : a.eval (.tmp x) = .pointer (some ⟨g, f, none⟩)) : (execOp a.eval o).run Tryz.prog w = .ok (nx o (.pointer (some ⟨g, f + k, none⟩))) w := by
  rw [nx_some hd]
  unfold Act.eval at h
  obtain ⟨d, op, t, ps, af, gu⟩ := o
  simp only at ho
  subst ho
  simp [faL] at hT
  rcases hT with h1 | h1 | h1 | h1 | h1 | h1 | h1 | h1 | h1 | h1 | h1 | h1 | h1 | h1 | h1 | h1 | h1 | h1 | h1 | h1 | h1 | h1 | h1 | h1 | h1 | h1 <;> obtain ⟨rfl, rfl, rfl⟩ := h1 <;> go_simp
theorem op_store1 {x y : Tmp} {T : TypeId} {p : Addr} {v v0 : Value} (hd : o.dst.isSome = false) (hT : T = 47 ∨ T = 48 ∨ T = 3 ∨ T = 42 ∨ T = 27 ∨ T = 4 ∨ T = 162) (ho : o.op = .store T (.tmp x) (.tmp y)) (h : a.eval (.tmp x) = .pointer (some p)) (h' : a.eval (.tmp y) = v) (hc : w.cell? p = some v0) (hf : w.frozen? p = false) (hv : (∃ A n c, v = .slice A n c) ∨ (∃ k i, v = .int k i) ∨ (∃ b, v = .bool b) ∨ (∃ m, v = .map m) ∨ ∃ q, v = .pointer q) : (execOp a.eval o).run Tryz.prog w = .ok (nx o undef) (w.setCell p v) := by
  rw [nx_none hd]
  unfold Act.eval at h h'
  obtain ⟨d, op, t, ps, af, gu⟩ := o
  simp only at ho
  subst ho
  rcases hT with rfl | rfl | rfl | rfl | rfl | rfl | rfl <;> rcases hv with ⟨A, n, c, rfl⟩ | ⟨k, i, rfl⟩ | ⟨b, rfl⟩ | ⟨m, rfl⟩ | ⟨q, rfl⟩ <;> go_simp
theorem op_store1w {x y : Tmp} {T : TypeId} {p : Addr} {v v0 : Value} {w' : World} (hd : o.dst.isSome = false) (hT : T = 47 ∨ T = 48 ∨ T = 3 ∨ T = 42 ∨ T = 27 ∨ T = 4 ∨ T = 162) (ho : o.op = .store T (.tmp x) (.tmp y)) (h : a.eval (.tmp x) = .pointer (some p)) (h' : a.eval (.tmp y) = v) (hc : w.cell? p = some v0) (hf : w.frozen? p = false) (hv : (∃ A n c, v = .slice A n c) ∨ (∃ k i, v = .int k i) ∨ (∃ b, v = .bool b) ∨ (∃ m, v = .map m) ∨ ∃ q, v = .pointer q) (hw : w.setCell p v = w') : (execOp a.eval o).run Tryz.prog w = .ok (nx o undef) w' := by
  subst hw
  exact op_store1 hd hT ho h h' hc hf hv
theorem op_index {x y : Tmp} {T : TypeId} {sz g f n c : Nat} {k r : Nat} {ki : Int} (hr : f + k * sz = r) (hd : o.dst.isSome = true) (hT : (T = 47 ∧ sz = 8) ∨ (T = 48 ∧ sz = 3) ∨ (T = 23 ∧ sz = 3) ∨ (T = 67 ∧ sz = 4)) (ho : o.op = .indexAddr T (.tmp x) (.tmp y)) (h : a.eval (.tmp x) = .slice (some ⟨g, f, none⟩) n c) (h' : a.eval (.tmp y) = .int .i64 ki) (hki : ki = k) (hk : k < n) : (execOp a.eval o).run Tryz.prog w = .ok (nx o (.pointer (some ⟨g, r, none⟩))) w := by
  rw [nx_some hd]
  subst hki hr
  unfold Act.eval at h h'
  obtain ⟨d, op, t, ps, af, gu⟩ := o
  simp only at ho
  subst ho
  have t1 : (0 : Int) ≤ k := by omega
  have t2 : (k : Int) < n := by omega
  have t3 : ((k : Int)).toNat = k := by omega
  rcases hT with ⟨rfl, rfl⟩ | ⟨rfl, rfl⟩ | ⟨rfl, rfl⟩ | ⟨rfl, rfl⟩ <;> go_simp
theorem op_sub1 {x : Tmp} {n : Nat} (hd : o.dst.isSome = true) (ho : o.op = .binOp .sub 3 (.tmp x) (.const (.int .i64 1)) 3) (h : a.eval (.tmp x) = .int .i64 n) (hn : 0 < n) (hn2 : n ≤ 1000000000) : (execOp a.eval o).run Tryz.prog w = .ok (nx o (.int .i64 ((n : Int) - 1))) w := by
  rw [nx_some hd]
  unfold Act.eval at h
  obtain ⟨d, op, t, ps, af, gu⟩ := o
  simp only at ho
  subst ho
  have t1 : IntKind.i64.wrap ((n : Int) - 1) = (n : Int) - 1 := IntWalk.i64_in _ (by omega)
  go_simp
theorem op_head {x y : Tmp} {T : TypeId} {A : Option Addr} {n c k : Nat} {ki : Int} (hd : o.dst.isSome = true) (hT : T = 47 ∨ T = 48) (ho : o.op = .slice T (.tmp x) none (some (.tmp y)) none) (h : a.eval (.tmp x) = .slice A n c) (h' : a.eval (.tmp y) = .int .i64 ki) (hki : ki = k) (hk : k ≤ c) : (execOp a.eval o).run Tryz.prog w = .ok (nx o (.slice A k c)) w := by
  rw [nx_some hd]
  subst hki
  unfold Act.eval at h h'
  obtain ⟨d, op, t, ps, af, gu⟩ := o
  simp only at ho
  subst ho
  have t1 : (0 : Int) ≤ k := by omega
  have t2 : (k : Int) ≤ c := by omega
  have t3 : ((k : Int)).toNat = k := by omega
  rcases hT with rfl | rfl <;> go_simp
theorem op_st8 {x y : Tmp} {g f : Nat} {v : AV} (hd : o.dst.isSome = false) (ho : o.op = .store 56 (.tmp x) (.tmp y)) (h : a.eval (.tmp x) = .pointer (some ⟨g, f, none⟩)) (h' : a.eval (.tmp y) = v.v) (hc : ∀ i, i < 8 → (w.cell? ⟨g, f + i, none⟩).isSome = true) (hf : ∀ i, w.frozen? ⟨g, i, none⟩ = false) :
    (execOp a.eval o).run Tryz.prog w = .ok (nx o undef) (st8 w g f v) := by
  rw [nx_none hd]
  unfold AV.v at h'
  unfold st8
  obtain ⟨z0, q0⟩ := Option.isSome_iff_exists.1 (hc 0 (by omega))
  obtain ⟨z1, q1⟩ := Option.isSome_iff_exists.1 (hc 1 (by omega))
  obtain ⟨z2, q2⟩ := Option.isSome_iff_exists.1 (hc 2 (by omega))
  obtain ⟨z3, q3⟩ := Option.isSome_iff_exists.1 (hc 3 (by omega))
  obtain ⟨z4, q4⟩ := Option.isSome_iff_exists.1 (hc 4 (by omega))
  obtain ⟨z5, q5⟩ := Option.isSome_iff_exists.1 (hc 5 (by omega))
  obtain ⟨z6, q6⟩ := Option.isSome_iff_exists.1 (hc 6 (by omega))
  obtain ⟨z7, q7⟩ := Option.isSome_iff_exists.1 (hc 7 (by omega))
  simp at q0
  clear hc hd
  unfold Act.eval at h h'
  obtain ⟨d, op, t, p, af, gu⟩ := o
  simp only at ho
  subst ho
  go_simp
end
end Go.Proofs.YtgboboljgcfggaaGreatDoor
namespace Go.Proofs.YtgboboljgcfggaaGreatDoor
open Go.RowKit
theorem set_comm (w : World) {p q : Addr} (h : p.block ≠ q.block) (u v : Value) : (w.setCell p u).setCell q v = (w.setCell q v).setCell p u := by
  unfold World.setCell
  congr 1
  apply Array.ext_getElem?
  intro i
  simp only [Array.getElem?_modify]
  by_cases h1 : p.block = i
  · have h2 : ¬ q.block = i := fun e => h (h1.trans e.symm)
    simp [h1, h2]
  · simp [h1]
theorem op_append {o : Oper} {a : Act} {w w' : World} {v' : Value} (hd : o.dst.isSome = true) (s x : Operand) (t : TypeId) (hop : o.op = Op.call { callee := Callee.builtin Builtin.append, args := #[s, x], argTypes := #[t, t] })
    (v v2 : Value) (hs : a.eval s = v) (hx : a.eval x = v2) (hrun : (Builtin.append_ #[t, t] o.type #[v, v2]).run Tryz.prog w = .ok v' w') : (execOp a.eval o).run Tryz.prog w = .ok (nx o v') w' := by
  unfold execOp nx
  simp only [hop, resolve, invoke, builtin, Sem.run_bind, Sem.run_pure, Result.andThen_ok, List.map_toArray, List.map_cons, List.map_nil, hs, hx, hrun]
  cases h : o.dst with
  | none => rw [h] at hd; cases hd
  | some t => rfl
theorem op_new {o : Oper} {a : Act} {w : World} {m : Nat} (hs : w.heap.size = m) (hd : o.dst.isSome = true) (ho : o.op = .buildSlice 47 1 #[(0, .const (.agg z8))]) : (execOp a.eval o).run Tryz.prog w = .ok (nx o (.slice (some ⟨m, 0, none⟩) 1 1)) (w.alloc (.cells z8 56)) := by
  subst hs
  rw [nx_some hd]
  obtain ⟨d, op, t, ps, af, gu⟩ := o
  simp only at ho
  subst ho
  go_simp
theorem st8_comm {w : World} {g o : Nat} {x : AV} {k j : Nat} (u : Value) (h : k ≠ g) : st8 (w.setCell ⟨k, j, none⟩ u) g o x = (st8 w g o x).setCell ⟨k, j, none⟩ u := by
  have c : ∀ (w : World) (i : Nat) (v : Value), (w.setCell ⟨k, j, none⟩ u).setCell ⟨g, i, none⟩ v = (w.setCell ⟨g, i, none⟩ v).setCell ⟨k, j, none⟩ u := fun w i v => set_comm w (by exact h) u v
  unfold st8
  rw [c, c, c, c, c, c, c, c]
theorem box8 (w : World) (x : AV) : ∀ i, i < 8 → (w.alloc (.cells #[iv x.kind, iv x.int, .slice x.A x.list.length x.c, iv x.block, eSm, eSm, nilS, nilS] 56)).cell? ⟨w.heap.size, 0 + i, none⟩ = x.cs[i]? := fun i _ => by
  rw [World.cell?_alloc_at (hn := rfl)]
  simp [AV.cs]
set_option maxRecDepth 100000 in
set_option maxHeartbeats 4000000 in
theorem push_any (b : Bl) (p : Prg) (x : AV) (w : World) (g : Gh) (steps seed : Int) (done : Bool) (err : Int) (hm : Mem b w g) (hR : RB b p w g.sv g.fv steps seed done err) (hx : LRd b.B g.tag w x.A x.c x.list) (hn : g.S.length ≤ 1000000) :
    Calls Tryz.prog 128 #[.pointer (some ⟨b.rb, 0, none⟩), x.v] w (PushP b p w g x steps seed done err) := by
  obtain ⟨n, hnn⟩ : ∃ n, n = g.S.length := ⟨_, rfl⟩
  obtain ⟨A, c, hsv⟩ : ∃ A c, g.sv = .slice A n c := by
    rcases hm.st.2 with ⟨e, h⟩ | ⟨g2, cap2, cur2, e, _⟩
    · exact ⟨none, 0, by rw [e, hnn, h]⟩
    · exact ⟨_, _, by rw [e, hnn]⟩
  obtain ⟨ob, hob⟩ : ∃ ob : Obj, ob = .cells #[iv x.kind, iv x.int, .slice x.A x.list.length x.c, iv x.block, eSm, eSm, nilS, nilS] 56 := ⟨_, rfl⟩
  have hX : ∃ v' w', (Builtin.append_ #[47, 47] 33 #[.slice A n c, .slice (some ⟨w.heap.size + 1, 0, none⟩) 1 1]).run Tryz.prog ((w.alloc ob).drew.alloc (.cells z8 56)) = .ok v' w' ∧ AppX b ((w.alloc ob).drew.alloc (.cells z8 56)) g n v' w' := by
    rw [← hsv]
    refine app_run ((hm.alloc _).drewN 1 |>.alloc _) (RB.alloc (hR.alloc ob : RB b p (w.alloc ob).drew _ _ _ _ _ _) _) hn _ ?_ _ n hnn
    have h1 := al_newM (w.alloc ob).drew (.cells z8 56)
    have h2 : (w.alloc ob).drew.heap.size = w.heap.size + 1 := by show (w.alloc ob).heap.size = _; simp
    rw [h2] at h1
    exact h1
  obtain ⟨_, w2, HRUN, gg, c', rfl, hap⟩ := hX
  have fin : PushP b p w g x steps seed done err (.returned (.tuple #[])) ((st8 w2 gg (n * 8) x).setCell ⟨b.rb, 2, none⟩ (.slice (some ⟨gg, 0, none⟩) (n + 1) c')) :=
    PushP.mk hm hR hx (((grown_alloc _ _ _).trans (grown_drewN _ 1 _)).trans (grown_alloc _ _ _)) hap hnn
  have hsz := hR.lt
  have c2 := hR.c 2
  simp [rcs, hsv] at c2
  have FIN := Lib.hid fin
  have Q8 : ∀ i, i < 8 → (w2.cell? ⟨gg, n * 8 + i, none⟩).isSome = true := fun i hi => by rw [hap.cell i hi]; simp; omega
  have q8 := hap.fz
  have q10 := hap.rc
  rw [hsv] at q10
  have r2 : (st8 w2 gg (n * 8) x).cell? ⟨b.rb, 2, none⟩ = some (.slice A n c) := (World.cell?_of_block (w := w2) (st8_other _ _ _ _ _ hap.ne)).trans q10
  have r3 : (st8 w2 gg (n * 8) x).frozen? ⟨b.rb, 2, none⟩ = false := (World.frozen?_of_block (w := w2) (st8_other _ _ _ _ _ hap.ne)).trans hap.rf
  subst hob
  have BX0 := box8 w x
  have BX1 : ∀ i, i < 8 → ((w.alloc (.cells #[iv x.kind, iv x.int, .slice x.A x.list.length x.c, iv x.block, eSm, eSm, nilS, nilS] 56)).drew.alloc (.cells z8 56)).cell? ⟨w.heap.size, 0 + i, none⟩ = x.cs[i]? := fun i hi =>
    (World.cell?_of_block (w := w.alloc _) (Below.heap_alloc _ _ _ (by show w.heap.size < (w.alloc _).heap.size; simp))).trans (BX0 i hi)
  have d1 := fun o => cell_al c2 hsz o
  have d2 : ∀ o o', ((w.alloc o).drew.alloc o').cell? ⟨b.rb, 2, none⟩ = some (.slice A n c) := fun o o' => cell_al (w := (w.alloc o).drew) (d1 o) (by show b.rb < (w.alloc o).heap.size; simp; omega) o'
  have hnl : n ≤ 1000000 := by omega
  have q11 := hap.rf
  have hap1 := hap.ne
  have q9 : ∀ i, (w2.setCell ⟨b.rb, 2, none⟩ (.slice (some ⟨gg, 0, none⟩) (n + 1) c')).frozen? ⟨gg, i, none⟩ = false := fun i => (World.frozen?_of_block (w := w2) (Below.heap_setCell _ _ _ _ (Ne.symm hap1))).trans (q8 i)
  have Q9 : ∀ i, i < 8 → ((w2.setCell ⟨b.rb, 2, none⟩ (.slice (some ⟨gg, 0, none⟩) (n + 1) c')).cell? ⟨gg, n * 8 + i, none⟩).isSome = true := fun i hi => by rw [World.cell?_of_block (w := w2) (Below.heap_setCell _ _ _ _ (Ne.symm hap1))]; exact Q8 i hi
  clear hap fin hsv hnn hR hx hm hn
  unfold AV.v
  go_enter Tryz.func128, Tryz.ntmps128
  go_wp2
  refine wp_phase [false, false, false, false, false, false, false, true, true, false, true, false, false, false, true] [[], [7], [7, 8], [7, 8, 10], [7, 8, 14], [7, 8, 10, 14]] [.pointer (some ⟨b.rb, 0, none⟩), .pointer (some ⟨b.rb, 0, none⟩), .pointer (some ⟨b.rb, 0, none⟩), .pointer (some ⟨b.rb, 2, none⟩), .slice A n c, x.v, .int .i64 n, .slice (some ⟨w.heap.size + 1, 0, none⟩) 1 1, .slice (some ⟨gg, 0, none⟩) (n + 1) c', .pointer (some ⟨gg, n * 8, none⟩), undef, .pointer (some ⟨b.rb, 0, none⟩), .pointer (some ⟨b.rb, 0, none⟩), .pointer (some ⟨b.rb, 2, none⟩), undef] [_, ((w.alloc (.cells #[iv x.kind, iv x.int, .slice x.A x.list.length x.c, iv x.block, eSm, eSm, nilS, nilS] 56)).drew).alloc (.cells z8 56), w2, st8 w2 gg (n * 8) x, w2.setCell ⟨b.rb, 2, none⟩ (.slice (some ⟨gg, 0, none⟩) (n + 1) c'), (st8 w2 gg (n * 8) x).setCell ⟨b.rb, 2, none⟩ (.slice (some ⟨gg, 0, none⟩) (n + 1) c')] 5 ⟨#[.pointer (some ⟨b.rb, 0, none⟩), x.v, undef, .pointer (some ⟨w.heap.size, 0, none⟩), .pointer (some ⟨b.rb, 0, none⟩), .pointer (some ⟨b.rb, 0, none⟩), .pointer (some ⟨b.rb, 0, none⟩), .pointer (some ⟨b.rb, 2, none⟩), .slice A n c, x.v, .int .i64 n, .slice (some ⟨w.heap.size + 1, 0, none⟩) 1 1, .slice (some ⟨gg, 0, none⟩) (n + 1) c', .pointer (some ⟨gg, n * 8, none⟩), .pointer (some ⟨b.rb, 0, none⟩), .pointer (some ⟨b.rb, 0, none⟩), .pointer (some ⟨b.rb, 2, none⟩)], []⟩ (by kernel_rfl) (by kernel_rfl) (by kernel_rfl) (by kernel_rfl) rfl (by kernel_rfl) (by kernel_rfl) rfl rfl ⟨?_, ?_, ?_, ?_, ?_, ?_, ?_, ?_, ?_, ?_, ?_, ?_, ?_, ?_, ?_, trivial⟩ rfl ?_
  · intro k a hk E
    have h0 : a.eval (.tmp 0) = .pointer (some ⟨b.rb, 0, none⟩) := (E 0 (by kernel_rfl)).trans (by kernel_rfl)
    exact obl_pure (by kernel_rfl) rfl hk fun w => op_move rfl rfl h0
  · intro k a hk E
    have h4 : a.eval (.tmp 4) = .pointer (some ⟨b.rb, 0, none⟩) := (E 4 (by kernel_rfl)).trans (by kernel_rfl)
    exact obl_pure (by kernel_rfl) rfl hk fun w => op_nil rfl rfl h4
  · intro k a hk E
    have h5 : a.eval (.tmp 5) = .pointer (some ⟨b.rb, 0, none⟩) := (E 5 (by kernel_rfl)).trans (by kernel_rfl)
    exact obl_pure (by kernel_rfl) rfl hk fun w => op_fa (k := 0) rfl rfl rfl h5
  · intro k a hk E
    have h6 : a.eval (.tmp 6) = .pointer (some ⟨b.rb, 0, none⟩) := (E 6 (by kernel_rfl)).trans (by kernel_rfl)
    exact obl_pure (by kernel_rfl) rfl hk fun w => op_fa (k := 2) rfl rfl rfl h6
  · intro k a hk E
    have h7 : a.eval (.tmp 7) = .pointer (some ⟨b.rb, 2, none⟩) := (E 7 (by kernel_rfl)).trans (by kernel_rfl)
    refine obl_read (ks := [0, 1]) (by kernel_rfl) (by kernel_rfl) rfl hk ⟨?_, ?_, trivial⟩
    · intro w' hw; cases hw; exact op_load1M rfl (by decide) rfl h7 (d1 _)
    · intro w' hw; cases hw; exact op_load1M rfl (by decide) rfl h7 (d2 _ _)
  · intro k a hk E
    have h3 : a.eval (.tmp 3) = .pointer (some ⟨w.heap.size, 0, none⟩) := (E 3 (by kernel_rfl)).trans (by kernel_rfl)
    refine obl_read (ks := [0, 1]) (by kernel_rfl) (by kernel_rfl) rfl hk ⟨?_, ?_, trivial⟩
    · intro w' hw; cases hw; exact op_load54 (vs := x.cs) rfl rfl rfl h3 BX0
    · intro w' hw; cases hw; exact op_load54 (vs := x.cs) rfl rfl rfl h3 BX1
  · intro k a hk E
    have h8 : a.eval (.tmp 8) = .slice A n c := (E 8 (by kernel_rfl)).trans (by kernel_rfl)
    exact obl_pure (by kernel_rfl) rfl hk fun w => op_len rfl (by decide) rfl h8
  · intro k a hk E
    exact obl_write (ks := [0]) (by kernel_rfl) (by kernel_rfl) hk ⟨⟨1, _, _, by kernel_rfl, rfl, rfl, op_new (by show (w.alloc _).heap.size = _; simp) rfl rfl⟩, trivial⟩
  · intro k a hk E
    have h8 : a.eval (.tmp 8) = .slice A n c := (E 8 (by kernel_rfl)).trans (by kernel_rfl)
    have h11 : a.eval (.tmp 11) = .slice (some ⟨w.heap.size + 1, 0, none⟩) 1 1 := (E 11 (by kernel_rfl)).trans (by kernel_rfl)
    exact obl_write (ks := [1]) (by kernel_rfl) (by kernel_rfl) hk ⟨⟨2, _, _, by kernel_rfl, rfl, rfl, op_append rfl (.tmp 8) (.tmp 11) 47 rfl _ _ h8 h11 HRUN⟩, trivial⟩
  · intro k a hk E
    have h12 : a.eval (.tmp 12) = .slice (some ⟨gg, 0, none⟩) (n + 1) c' := (E 12 (by kernel_rfl)).trans (by kernel_rfl)
    have h10 : a.eval (.tmp 10) = .int .i64 n := (E 10 (by kernel_rfl)).trans (by kernel_rfl)
    exact obl_pure (by kernel_rfl) rfl hk fun w => op_index (sz := 8) (f := 0) (k := n) (Nat.zero_add _) rfl (by decide) rfl h12 h10 rfl (by omega)
  · intro k a hk E
    have h13 : a.eval (.tmp 13) = .pointer (some ⟨gg, n * 8, none⟩) := (E 13 (by kernel_rfl)).trans (by kernel_rfl)
    have h9 : a.eval (.tmp 9) = x.v := (E 9 (by kernel_rfl)).trans (by kernel_rfl)
    exact obl_write (ks := [2, 4]) (by kernel_rfl) (by kernel_rfl) hk ⟨⟨3, _, _, by kernel_rfl, rfl, rfl, op_st8 rfl rfl h13 h9 Q8 q8⟩, ⟨5, _, _, by kernel_rfl, rfl, rfl, (op_st8 rfl rfl h13 h9 Q9 q9).trans (by rw [st8_comm _ hap1]; rfl)⟩, trivial⟩
  · intro k a hk E
    have h4 : a.eval (.tmp 4) = .pointer (some ⟨b.rb, 0, none⟩) := (E 4 (by kernel_rfl)).trans (by kernel_rfl)
    exact obl_pure (by kernel_rfl) rfl hk fun w => op_nil rfl rfl h4
  · intro k a hk E
    have h14 : a.eval (.tmp 14) = .pointer (some ⟨b.rb, 0, none⟩) := (E 14 (by kernel_rfl)).trans (by kernel_rfl)
    exact obl_pure (by kernel_rfl) rfl hk fun w => op_fa (k := 0) rfl rfl rfl h14
  · intro k a hk E
    have h15 : a.eval (.tmp 15) = .pointer (some ⟨b.rb, 0, none⟩) := (E 15 (by kernel_rfl)).trans (by kernel_rfl)
    exact obl_pure (by kernel_rfl) rfl hk fun w => op_fa (k := 2) rfl rfl rfl h15
  · intro k a hk E
    have h16 : a.eval (.tmp 16) = .pointer (some ⟨b.rb, 2, none⟩) := (E 16 (by kernel_rfl)).trans (by kernel_rfl)
    have h12 : a.eval (.tmp 12) = .slice (some ⟨gg, 0, none⟩) (n + 1) c' := (E 12 (by kernel_rfl)).trans (by kernel_rfl)
    exact obl_write (ks := [2, 3]) (by kernel_rfl) (by kernel_rfl) hk ⟨⟨4, _, _, by kernel_rfl, rfl, rfl, op_store1 rfl (by decide) rfl h16 h12 q10 q11 (.inl ⟨_, _, _, rfl⟩)⟩, ⟨5, _, _, by kernel_rfl, rfl, rfl, op_store1 rfl (by decide) rfl h16 h12 r2 r3 (.inl ⟨_, _, _, rfl⟩)⟩, trivial⟩
  go_wp2
  refine bodyPost_ret (v := .tuple #[]) (results_none rfl _ _ _) rfl FIN.out
end Go.Proofs.YtgboboljgcfggaaGreatDoor
namespace Go.Proofs.YtgboboljgcfggaaGreatDoor
open Go.RowKit
theorem Mem.sform {b : Bl} {w : World} {g : Gh} (h : Mem b w g) : (g.sv = .slice none 0 0 ∧ g.S = []) ∨ ∃ gg c, g.sv = .slice (some ⟨gg, 0, none⟩) g.S.length c ∧ g.S.length ≤ c ∧ gg < w.heap.size ∧ ∀ (j : Nat) x, g.S[j]? = some x → ∀ i, i < 8 → w.cell? ⟨gg, j * 8 + i, none⟩ = x.cs[i]? := by
  rcases h.st.2 with ⟨h1, h2⟩ | ⟨gg, cap, cur, e, _, hg, hnc, _⟩
  · exact .inl ⟨h1, List.eq_nil_of_length_eq_zero h2⟩
  · refine .inr ⟨gg, cap, e, hnc, heap_ltM hg, fun j x hj i hi => ?_⟩
    have hst := h.st
    rw [e] at hst
    have hlt : j < g.S.length := by
      rcases Nat.lt_or_ge j g.S.length with h' | h'
      · exact h'
      · rw [List.getElem?_eq_none h'] at hj; cases hj
    rw [World.ownsRow.cellAt hst _ (by omega)]
    have key : ∀ (L : List AV) (j : Nat), L[j]? = some x → (L.flatMap AV.cs)[j * 8 + i]? = x.cs[i]? := by
      intro L
      induction L with
      | nil => intro j hj; simp at hj
      | cons y L ih =>
        intro j hj
        cases j with
        | zero =>
          simp at hj
          subst hj
          simp only [List.flatMap_cons, Nat.zero_mul, Nat.zero_add]
          rw [List.getElem?_append_left (by rw [AV.cs_len]; exact hi)]
        | succ j =>
          simp only [List.flatMap_cons]
          rw [List.getElem?_append_right (by rw [AV.cs_len]; omega), AV.cs_len, show (j + 1) * 8 + i - 8 = j * 8 + i by omega]
          exact ih j (by simpa using hj)
    exact key g.S j hj
theorem Mem.cut {b : Bl} {w : World} {g : Gh} (h : Mem b w g) {S : List AV} {x : AV} (hS : g.S = S ++ [x]) {gg c : Nat} (hv : g.sv = .slice (some ⟨gg, 0, none⟩) g.S.length c) : Mem b w { g with S := S, sv := .slice (some ⟨gg, 0, none⟩) (g.S.length - 1) c } := by
  refine { h with st := ?_, stt := fun k e => h.stt k (by rw [hv]; exact e), sr := fun y hy => h.sr y (by rw [hS]; exact List.mem_append_left _ hy) }
  have h1 := h.st
  rw [hv] at h1
  rcases h1.2 with ⟨e, _⟩ | ⟨g2, cap, cur, e, hb, hg, hnc, hm, hcs, ht⟩
  · cases e
  · simp only [Value.slice.injEq, Option.some.injEq, Addr.mk.injEq, and_true, true_and] at e
    obtain ⟨rfl, rfl⟩ := e
    have hl : g.S.length = S.length + 1 := by rw [hS]; simp
    have hl2 : g.S.length - 1 = S.length := by omega
    refine ⟨by simp only [flat8], .inr ⟨gg, c, cur, by simp only [hl2], hb, hg, by simp only []; omega, hm, hcs, ?_⟩⟩
    simp only []
    have e2 : g.S.flatMap AV.cs = S.flatMap AV.cs ++ x.cs := by rw [hS]; simp
    rw [e2] at ht
    have e3 := congrArg (List.take (S.length * 8)) ht
    rw [List.take_take, Nat.min_eq_left (by omega), List.take_append_of_le_length (by rw [flat8]; exact Nat.le_refl _)] at e3
    rw [e3, List.take_of_length_le (by rw [flat8]; exact Nat.le_refl _)]
theorem results_cell1' {fn : Func} {p : Tmp} {ty : TypeId} (h : fn.results = #[.cell p ty]) (tmps : Array Value) (P : Program) (w : World) :
    (results fn tmps).run P w = ((asAddr (tmps.getD p undef)).run P w).andThen fun a w₁ => (loadVar ty a).run P w₁ := by
  simp only [results, h]
  simp [Sem.run_bind]
theorem results_av {fn : Func} {p : Tmp} (h : fn.results = #[.cell p 56]) (tmps : Array Value) (w : World) (g : Nat) (x : AV) (hp : tmps.getD p undef = .pointer (some ⟨g, 0, none⟩)) (hc : ∀ i, i < 8 → w.cell? ⟨g, 0 + i, none⟩ = x.cs[i]?) : (results fn tmps).run Tryz.prog w = .ok x.v w := by
  have q0 := hc 0 (by omega)
  have q1 := hc 1 (by omega)
  have q2 := hc 2 (by omega)
  have q3 := hc 3 (by omega)
  have q4 := hc 4 (by omega)
  have q5 := hc 5 (by omega)
  have q6 := hc 6 (by omega)
  have q7 := hc 7 (by omega)
  simp [AV.cs] at q0 q1 q2 q3 q4 q5 q6 q7
  clear hc
  rw [results_cell1' h, hp]
  unfold AV.v
  simp [go_sem, loadVar, q0, q1, q2, q3, q4, q5, q6, q7]
theorem st8_cells {w : World} {g o : Nat} {x : AV} {cur : Array Value} {e : TypeId} {fz : Nat × Nat} (h : w.heap[g]? = some (.cells cur e fz)) (hs : o + 8 ≤ cur.size) (i : Nat) (hi : i < 8) : (st8 w g o x).cell? ⟨g, o + i, none⟩ = x.cs[i]? := by
  simp only [World.cell?, st8_heap h]
  have : i = 0 ∨ i = 1 ∨ i = 2 ∨ i = 3 ∨ i = 4 ∨ i = 5 ∨ i = 6 ∨ i = 7 := by omega
  rcases this with rfl | rfl | rfl | rfl | rfl | rfl | rfl | rfl <;> simp [Array.getElem?_setIfInBounds, AV.cs] <;> omega
def PopM (b : Bl) (p : Prg) (w : World) (g : Gh) (S : List AV) (v : Value) (steps seed : Int) (done : Bool) (err : Int) (e : Ending) (w' : World) : Prop :=
  e = .returned v ∧ w.grownBy w' (some b.rb) ∧ ∃ sv', RB b p w' sv' g.fv steps seed done err ∧ Mem b w' { g with S := S, sv := sv' }
def Flt (b : Bl) (p : Prg) (w : World) (steps : Int) (done : Bool) (err : Int) (c : Int) (e : Ending) (w' : World) : Prop :=
  e = .panicked (stopC c) ∧ w.grownBy w' (some b.rb) ∧ ∃ sv' fv' seed', RB b p w' sv' fv' steps seed' done err
theorem grown_weak {w w' : World} (h : w.grownBy w' none) (row : Option Nat) : w.grownBy w' row := ⟨h.os, h.tape, h.output, h.size, fun k hk _ => h.block k hk (by simp)⟩
theorem pop_mem (b : Bl) (p : Prg) (w : World) (g : Gh) (S : List AV) (x : AV) (steps seed : Int) (done : Bool) (err : Int) (hm : Mem b w g) (hR : RB b p w g.sv g.fv steps seed done err) (hS : g.S = S ++ [x]) (hn : g.S.length ≤ 1000000) :
    Calls Tryz.prog 145 #[.pointer (some ⟨b.rb, 0, none⟩)] w (PopM b p w g S x.v steps seed done err) := by
  rcases hm.sform with ⟨_, h⟩ | ⟨gg, c, e, hnc, hlt, hc⟩
  · rw [h] at hS; simp at hS
  · have hl : g.S.length = S.length + 1 := by rw [hS]; simp
    refine (pop_some b p gg g.S.length c g.fv steps seed done err x w (by omega) hn hnc hlt (by rw [← e]; exact hR) fun i hi => ?_).mono ?_
    · rw [hl, Nat.add_sub_cancel]
      exact hc S.length x (by rw [hS]; simp) i hi
    · rintro e' w' ⟨rfl, h1, h2⟩
      exact ⟨rfl, h1, _, h2, (hm.cut hS e).only h1 hR⟩
theorem pop_flt (b : Bl) (p : Prg) (w : World) (g : Gh) (steps seed : Int) (done : Bool) (err : Int) (hm : Mem b w g) (hR : RB b p w g.sv g.fv steps seed done err) (hS : g.S = []) :
    Calls Tryz.prog 145 #[.pointer (some ⟨b.rb, 0, none⟩)] w (Flt b p w steps done err 26) := by
  have : ∃ A c, g.sv = .slice A 0 c := by
    rcases hm.sform with ⟨h, _⟩ | ⟨gg, c, e, _⟩
    · exact ⟨_, _, h⟩
    · rw [hS] at e; exact ⟨_, _, e⟩
  obtain ⟨A, c, e⟩ := this
  have hR' := hR
  rw [e] at hR'
  refine (pop_none b p A c g.fv steps seed done err w hR').mono ?_
  rintro e' w' ⟨rfl, h1⟩
  exact ⟨rfl, grown_weak h1 _, _, _, _, hR.keep (h1.block _ hR.lt (by simp))⟩
set_option maxRecDepth 100000 in
theorem popK_none (b : Bl) (p : Prg) (w : World) (g : Gh) (k steps seed : Int) (done : Bool) (err : Int) (hm : Mem b w g) (hR : RB b p w g.sv g.fv steps seed done err) (hS : g.S = []) :
    Calls Tryz.prog 138 #[.pointer (some ⟨b.rb, 0, none⟩), iv k] w (Flt b p w steps done err 26) := by
  have C1 : ∀ o, Calls Tryz.prog 145 #[.pointer (some ⟨b.rb, 0, none⟩)] (w.alloc o) (Flt b p (w.alloc o) steps done err 26) := fun o => pop_flt b p (w.alloc o) g steps seed done err (hm.alloc o) (hR.alloc o) hS
  have H1 := Lib.hid C1
  have fin : ∀ o w', (w.alloc o).grownBy w' (some b.rb) → (∃ sv' fv' seed', RB b p w' sv' fv' steps seed' done err) → Flt b p w steps done err 26 (.panicked (stopC 26)) w' := fun o w' h1 h2 => ⟨rfl, (grown_alloc w o _).trans h1, h2⟩
  have FIN := Lib.hid fin
  clear C1 fin hm hR hS
  go_enter Tryz.func138, Tryz.ntmps138
  go_wp2_with (go_at_call 145; refine (H1.out _).mono ?_; rintro e w1 ⟨rfl, k1, k2⟩)
  exact ⟨rfl, FIN.out _ _ k1 k2⟩
theorem Mem.st8box {b : Bl} {w : World} {g : Gh} (h : Mem b w g) {k : Nat} (hk : b.B ≤ k) (ht : g.tag k = .no) (o : Nat) (x : AV) : Mem b (st8 w k o x) g := by
  have e0 := st8_os w k o x
  refine h.keep e0.1 e0.2.1 e0.2.2 (by rw [st8_size]; exact Nat.le_refl _) w.heap.size (by intro h; omega) fun i hi _ hr => st8_other _ _ _ _ _ fun e => ?_
  subst e
  rcases hr with hr | hr
  · omega
  · exact hr ht
def PopM2 (b : Bl) (p : Prg) (w : World) (g : Gh) (S : List AV) (steps seed : Int) (done : Bool) (err : Int) (w' : World) : Prop := w.grownBy w' (some b.rb) ∧ ∃ sv', RB b p w' sv' g.fv steps seed done err ∧ Mem b w' { g with S := S, sv := sv' }
set_option maxRecDepth 100000 in
set_option maxHeartbeats 1000000 in
theorem popK_bad (b : Bl) (p : Prg) (w : World) (g : Gh) (S : List AV) (x : AV) (k steps seed : Int) (done : Bool) (err : Int) (hm : Mem b w g) (hR : RB b p w g.sv g.fv steps seed done err) (hS : g.S = S ++ [x]) (hn : g.S.length ≤ 1000000) (hk : x.kind ≠ k) :
    Calls Tryz.prog 138 #[.pointer (some ⟨b.rb, 0, none⟩), iv k] w (Flt b p w steps done err 26) := by
  have C1 : ∀ o, Calls Tryz.prog 145 #[.pointer (some ⟨b.rb, 0, none⟩)] (w.alloc o) fun e w' => e = .returned x.v ∧ PopM2 b p (w.alloc o) g S steps seed done err w' := fun o => pop_mem b p (w.alloc o) g S x steps seed done err (hm.alloc o) (hR.alloc o) hS hn
  have H1 := Lib.hid C1
  have FA := fun W => fault_any 26 W
  have HFA := Lib.hid FA
  have hlt := hR.lt
  have fin : ∀ o o' w', PopM2 b p (w.alloc o) g S steps seed done err w' → Flt b p w steps done err 26 (.panicked (stopC 26)) (w'.alloc o') := fun o o' w' ⟨h1, sv', h2, _⟩ =>
    ⟨rfl, ((grown_alloc w o _).trans h1).trans (grown_alloc w' o' _), _, _, _, h2.alloc o'⟩
  have FIN := Lib.hid fin
  have ek : (x.kind != k) = true := by simpa using hk
  clear C1 fin hm hR hS FA hn hlt
  unfold AV.v at H1
  generalize x.kind = X0 at *
  generalize x.int = X1 at *
  generalize x.A = X2 at *
  generalize x.list.length = X3 at *
  generalize x.c = X4 at *
  generalize x.block = X5 at *
  go_enter Tryz.func138, Tryz.ntmps138
  go_wp2_with (first | (go_at_call 145; refine (H1.out _).mono ?_; rintro e w1 ⟨rfl, k1⟩; have K1 := Lib.hid k1; clear k1) | (go_at_call 105; refine (HFA.out _).mono ?_; rintro e w2 ⟨rfl, rfl⟩))
  exact ⟨rfl, FIN.out _ _ _ K1.out⟩
set_option maxRecDepth 100000 in
set_option maxHeartbeats 1000000 in
theorem popK_ok (b : Bl) (p : Prg) (w : World) (g : Gh) (S : List AV) (x : AV) (steps seed : Int) (done : Bool) (err : Int) (hm : Mem b w g) (hR : RB b p w g.sv g.fv steps seed done err) (hS : g.S = S ++ [x]) (hn : g.S.length ≤ 1000000) :
    Calls Tryz.prog 138 #[.pointer (some ⟨b.rb, 0, none⟩), iv x.kind] w (PopM b p w g S x.v steps seed done err) := by
  have C1 : ∀ o, Calls Tryz.prog 145 #[.pointer (some ⟨b.rb, 0, none⟩)] (w.alloc o) fun e w' => e = .returned x.v ∧ PopM2 b p (w.alloc o) g S steps seed done err w' ∧ w.heap.size < w'.heap.size := fun o => (pop_mem b p (w.alloc o) g S x steps seed done err (hm.alloc o) (hR.alloc o) hS hn).mono fun e w' ⟨h1, h2⟩ => ⟨h1, h2, by have := h2.1.size; simp at this; omega⟩
  have H1 := Lib.hid C1
  have hrb := hR.lt
  have box0 : ∀ o w', PopM2 b p (w.alloc o) g S steps seed done err w' → w'.heap[w.heap.size]? = some o := fun o w' h => by
    rw [h.1.block w.heap.size (by simp) (by intro e; have : w.heap.size = b.rb := Option.some.inj e; omega)]
    exact al_newM w o
  have BOX := Lib.hid box0
  have fin : ∀ o o' w', PopM2 b p (w.alloc o) g S steps seed done err w' → PopM b p w g S x.v steps seed done err (.returned x.v) ((st8 w' w.heap.size 0 x).alloc o') := fun o o' w' ⟨h1, sv', h2, h3⟩ => by
    have hB := hm.hs
    have ht : g.tag w.heap.size = .no := hm.new _ (Nat.le_refl _)
    have e0 := st8_os w' w.heap.size 0 x
    have k1 : w.grownBy (st8 w' w.heap.size 0 x) (some b.rb) := by
      have q1 := (grown_alloc w o (some b.rb)).trans h1
      exact ⟨e0.1.trans q1.os, e0.2.1.trans q1.tape, e0.2.2.trans q1.output, by rw [st8_size]; exact q1.size, fun i hi hne => (st8_other _ _ _ _ _ (by omega)).trans (q1.block i hi hne)⟩
    exact ⟨rfl, k1.trans (grown_alloc _ o' _), sv', RB.alloc (h2.keep (st8_other _ _ _ _ _ (by omega))) o', (h3.st8box hB ht _ _).alloc o'⟩
  have FIN := Lib.hid fin
  clear C1 fin hm hR hS hn hrb box0
  have RES := Lib.hid (fun (w1 : World) (o' : Obj) (h : w1.heap[w.heap.size]? = some (.cells #[.int .i64 0, .int .i64 0, .slice none 0 0, .int .i64 0, .string ⟨#[]⟩, .string ⟨#[]⟩, .slice none 0 0, .slice none 0 0] 56)) (tmps : Array Value) (hp : tmps.getD 4 undef = .pointer (some ⟨w.heap.size, 0, none⟩)) =>
    results_av (fn := Tryz.f138) Tryz.results138 tmps ((st8 w1 w.heap.size 0 x).alloc o') w.heap.size x hp fun i hi => (World.cell?_of_block (w := st8 w1 w.heap.size 0 x) (Below.heap_alloc _ _ _ (by rw [st8_size]; exact heap_ltM h))).trans (st8_cells h (by simp) i hi))
  unfold AV.v at H1 FIN RES
  unfold st8 at FIN RES
  unfold AV.v
  generalize x.kind = X0 at *
  generalize x.int = X1 at *
  generalize x.A = X2 at *
  generalize x.list.length = X3 at *
  generalize x.c = X4 at *
  generalize x.block = X5 at *
  go_enter Tryz.func138, Tryz.ntmps138
  go_wp2_with (go_at_call 145; refine (H1.out _).mono ?_; rintro e w1 ⟨rfl, k1, ks⟩; have kb := BOX.out _ _ k1; have K1 := Lib.hid k1; clear k1; have c0 := Lib.cell_of_heap kb 0; have c1 := Lib.cell_of_heap kb 1; have c2 := Lib.cell_of_heap kb 2; have c3 := Lib.cell_of_heap kb 3; have c4 := Lib.cell_of_heap kb 4; have c5 := Lib.cell_of_heap kb 5; have c6 := Lib.cell_of_heap kb 6; have c7 := Lib.cell_of_heap kb 7; simp at c0 c1 c2 c3 c4 c5 c6 c7; have f0 := fun j => Lib.frozen_of_heap kb j; have KB := Lib.hid kb; clear kb)
  refine bodyPost_ret (v := .agg #[iv X0, iv X1, .slice X2 X3 X4, iv X5, eSm, eSm, nilS, nilS]) (RES.out _ _ KB.out _ rfl) rfl (FIN.out _ _ _ K1.out)
end Go.Proofs.YtgboboljgcfggaaGreatDoor
namespace Go.Proofs.YtgboboljgcfggaaGreatDoor
open Go.RowKit
def EffP (b : Bl) (p : Prg) (w : World) (g : Gh) (R : Except Int MS) (steps err : Int) (e : Ending) (w' : World) : Prop :=
  match R with
  | .error c => Flt b p w steps false err c e w'
  | .ok s => e = .returned (.tuple #[]) ∧ ∃ g', Mem b w' g' ∧ Ch w g w' g' ∧ RB b p w' g'.sv g'.fv steps s.seed s.done err ∧ ers g'.S = s.S ∧ g'.F.map Fr.er = s.F
theorem EffP.push {b : Bl} {p : Prg} {w w1 : World} {g g1 : Gh} {x : AV} {steps seed err : Int} {e : Ending} {w' : World} {R : Except Int MS} (h : PushP b p w1 g1 x steps seed false err e w') (hc : Ch w g w1 g1) (hR : R = .ok ⟨ers g1.S ++ [x.er], g1.F.map Fr.er, seed, false⟩) : EffP b p w g R steps err e w' := by
  subst hR
  obtain ⟨rfl, g', h1, h2, h3, h4, h5, h6, h7⟩ := h
  exact ⟨rfl, g', h1, hc.trans h2, h7, by simp [h3], by simp [h4]⟩
def Ins.val (x : Ins) : Value := .agg #[iv x.op, iv x.a, iv x.b, tv x.name]
def AV.num (k i : Int) : AV := .mk k i none 0 0 []
theorem AV.num_er (k i : Int) : (AV.num k i).er = .mk k i 0 [] := by simp [AV.num, AV.er]
abbrev vec (k i : Int) : Value := .agg #[.int .i64 k, .int .i64 i, .slice none 0 0, .int .i64 0, .string ⟨#[]⟩, .string ⟨#[]⟩, .slice none 0 0, .slice none 0 0]
theorem push_num (b : Bl) (p : Prg) (k i : Int) (w : World) (g : Gh) (steps seed : Int) (done : Bool) (err : Int) (hm : Mem b w g) (hR : RB b p w g.sv g.fv steps seed done err) (hn : g.S.length ≤ 1000000) :
    Calls Tryz.prog 128 #[.pointer (some ⟨b.rb, 0, none⟩), vec k i] w (PushP b p w g (AV.num k i) steps seed done err) :=
  push_any b p (AV.num k i) w g steps seed done err hm hR (LRd.nil _ _ _) hn
theorem tb_cell {b : Bl} {w : World} {g : Gh} (h : Mem b w g) : w.cell? ⟨b.tb, 0, none⟩ = some (.pointer (some ⟨b.rb, 0, none⟩)) := by simp [World.cell?, h.to]
theorem tb_cell' {b : Bl} {w : World} {g : Gh} (h : Mem b w g) (o : Obj) : (w.alloc o).cell? ⟨b.tb, 0, none⟩ = some (.pointer (some ⟨b.rb, 0, none⟩)) := tb_cell (h.alloc o)
set_option maxRecDepth 100000 in
theorem eff_int (b : Bl) (p : Prg) (x : Ins) (w : World) (g : Gh) (steps seed err : Int) (hm : Mem b w g) (hR : RB b p w g.sv g.fv steps seed false err) (hn : g.S.length ≤ 1000000) :
    Calls Tryz.prog 127 #[x.val, .pointer (some ⟨b.tb, 0, none⟩)] w (EffP b p w g (.ok ⟨ers g.S ++ [.mk 1 x.a 0 []], g.F.map Fr.er, seed, false⟩) steps err) := by
  have C1 : ∀ o, Calls Tryz.prog 128 #[.pointer (some ⟨b.rb, 0, none⟩), vec 1 x.a] (w.alloc o) (EffP b p w g (.ok ⟨ers g.S ++ [.mk 1 x.a 0 []], g.F.map Fr.er, seed, false⟩) steps err) := fun o =>
    (push_num b p 1 x.a (w.alloc o) g steps seed false err (hm.alloc o) (hR.alloc o) hn).mono fun e w' h => EffP.push h (Ch.grown (grown_alloc w o _)) (by rw [AV.num_er])
  have H1 := Lib.hid C1
  have ct := fun o => tb_cell' hm o
  clear C1 hm hR hn
  unfold Ins.val
  go_enter Tryz.func127, Tryz.ntmps127
  go_wp2_with (go_at_call 128; refine (H1.out _).mono ?_; intro e w1 k1; obtain ⟨rfl, k2⟩ := id k1; have K1 := Lib.hid k1; clear k1 k2)
  exact bodyPost_ret (v := .tuple #[]) (results_none rfl _ _ _) rfl K1.out
set_option maxRecDepth 100000 in
theorem eff_bool (b : Bl) (p : Prg) (x : Ins) (w : World) (g : Gh) (steps seed err : Int) (hm : Mem b w g) (hR : RB b p w g.sv g.fv steps seed false err) (hn : g.S.length ≤ 1000000) :
    Calls Tryz.prog 129 #[x.val, .pointer (some ⟨b.tb, 0, none⟩)] w (EffP b p w g (.ok ⟨ers g.S ++ [.mk 2 x.a 0 []], g.F.map Fr.er, seed, false⟩) steps err) := by
  have C1 : ∀ o, Calls Tryz.prog 128 #[.pointer (some ⟨b.rb, 0, none⟩), vec 2 x.a] (w.alloc o) (EffP b p w g (.ok ⟨ers g.S ++ [.mk 2 x.a 0 []], g.F.map Fr.er, seed, false⟩) steps err) := fun o =>
    (push_num b p 2 x.a (w.alloc o) g steps seed false err (hm.alloc o) (hR.alloc o) hn).mono fun e w' h => EffP.push h (Ch.grown (grown_alloc w o _)) (by rw [AV.num_er])
  have H1 := Lib.hid C1
  have ct := fun o => tb_cell' hm o
  clear C1 hm hR hn
  unfold Ins.val
  go_enter Tryz.func129, Tryz.ntmps129
  go_wp2_with (go_at_call 128; refine (H1.out _).mono ?_; intro e w1 k1; obtain ⟨rfl, k2⟩ := id k1; have K1 := Lib.hid k1; clear k1 k2)
  exact bodyPost_ret (v := .tuple #[]) (results_none rfl _ _ _) rfl K1.out
set_option maxRecDepth 100000 in
theorem eff_nil (b : Bl) (p : Prg) (x : Ins) (w : World) (g : Gh) (steps seed err : Int) (hm : Mem b w g) (hR : RB b p w g.sv g.fv steps seed false err) (hn : g.S.length ≤ 1000000) :
    Calls Tryz.prog 140 #[x.val, .pointer (some ⟨b.tb, 0, none⟩)] w (EffP b p w g (.ok ⟨ers g.S ++ [.mk 3 0 0 []], g.F.map Fr.er, seed, false⟩) steps err) := by
  have C1 : ∀ o, Calls Tryz.prog 128 #[.pointer (some ⟨b.rb, 0, none⟩), vec 3 0] (w.alloc o) (EffP b p w g (.ok ⟨ers g.S ++ [.mk 3 0 0 []], g.F.map Fr.er, seed, false⟩) steps err) := fun o =>
    (push_num b p 3 0 (w.alloc o) g steps seed false err (hm.alloc o) (hR.alloc o) hn).mono fun e w' h => EffP.push h (Ch.grown (grown_alloc w o _)) (by rw [AV.num_er])
  have H1 := Lib.hid C1
  have ct := fun o => tb_cell' hm o
  clear C1 hm hR hn
  unfold Ins.val
  go_enter Tryz.func140, Tryz.ntmps140
  go_wp2_with (go_at_call 128; refine (H1.out _).mono ?_; intro e w1 k1; obtain ⟨rfl, k2⟩ := id k1; have K1 := Lib.hid k1; clear k1 k2)
  exact bodyPost_ret (v := .tuple #[]) (results_none rfl _ _ _) rfl K1.out
def PBoolP (b : Bl) (p : Prg) (w : World) (g : Gh) (i steps seed : Int) (done : Bool) (err : Int) (e : Ending) (w' : World) : Prop := e = .returned (.tuple #[]) ∧ ∃ w1, w.grownBy w1 none ∧ PushP b p w1 g (AV.num 2 i) steps seed done err e w'
set_option maxRecDepth 100000 in
theorem pushBool_any (b : Bl) (p : Prg) (q : Bool) (w : World) (g : Gh) (steps seed : Int) (done : Bool) (err : Int) (hm : Mem b w g) (hR : RB b p w g.sv g.fv steps seed done err) (hn : g.S.length ≤ 1000000) :
    Calls Tryz.prog 159 #[.pointer (some ⟨b.rb, 0, none⟩), .bool q] w (PBoolP b p w g (if q then 1 else 0) steps seed done err) := by
  cases q with
  | true =>
    rw [show (if (true : Bool) = true then (1 : Int) else 0) = 1 from rfl]
    have C1 : ∀ o, Calls Tryz.prog 128 #[.pointer (some ⟨b.rb, 0, none⟩), vec 2 1] (w.alloc o) (PBoolP b p w g 1 steps seed done err) := fun o =>
      (push_num b p 2 1 (w.alloc o) g steps seed done err (hm.alloc o) (hR.alloc o) hn).mono fun e w' h => ⟨h.1, _, grown_alloc w o _, h⟩
    have H1 := Lib.hid C1
    clear C1 hm hR hn
    go_enter Tryz.func159, Tryz.ntmps159
    go_wp2_with (go_at_call 128; refine (H1.out _).mono ?_; intro e w1 k1; obtain ⟨rfl, k2⟩ := id k1; have K1 := Lib.hid k1; clear k1 k2)
    exact bodyPost_ret (v := .tuple #[]) (results_none rfl _ _ _) rfl K1.out
  | false =>
    rw [show (if (false : Bool) = true then (1 : Int) else 0) = 0 from rfl]
    have C1 : ∀ o, Calls Tryz.prog 128 #[.pointer (some ⟨b.rb, 0, none⟩), vec 2 0] (w.alloc o) (PBoolP b p w g 0 steps seed done err) := fun o =>
      (push_num b p 2 0 (w.alloc o) g steps seed done err (hm.alloc o) (hR.alloc o) hn).mono fun e w' h => ⟨h.1, _, grown_alloc w o _, h⟩
    have H1 := Lib.hid C1
    clear C1 hm hR hn
    go_enter Tryz.func159, Tryz.ntmps159
    go_wp2_with (go_at_call 128; refine (H1.out _).mono ?_; intro e w1 k1; obtain ⟨rfl, k2⟩ := id k1; have K1 := Lib.hid k1; clear k1 k2)
    exact bodyPost_ret (v := .tuple #[]) (results_none rfl _ _ _) rfl K1.out
end Go.Proofs.YtgboboljgcfggaaGreatDoor
namespace Go.Proofs.YtgboboljgcfggaaGreatDoor
open Go.RowKit
theorem Ch.retag {w w' : World} {g g1 g2 : Gh} (h : Ch w g w' g1) (e : g2.tag = g1.tag) : Ch w g w' g2 := ⟨h.os, h.tape, h.output, h.size, h.block, by rw [e]; exact h.tag⟩
theorem fld1 (k i bl : Int) (A : Option Addr) (n c : Nat) (w : World) : (Instr.field 56 (.agg #[.int .i64 k, .int .i64 i, .slice A n c, .int .i64 bl, .string ⟨#[]⟩, .string ⟨#[]⟩, .slice none 0 0, .slice none 0 0]) 1).run Tryz.prog w = .ok (.int .i64 i) w := by kernel_rfl
theorem fld2 (k i bl : Int) (A : Option Addr) (n c : Nat) (w : World) : (Instr.field 56 (.agg #[.int .i64 k, .int .i64 i, .slice A n c, .int .i64 bl, .string ⟨#[]⟩, .string ⟨#[]⟩, .slice none 0 0, .slice none 0 0]) 2).run Tryz.prog w = .ok (.slice A n c) w := by kernel_rfl
theorem Flt.trans {b : Bl} {p : Prg} {w w1 : World} {steps : Int} {done : Bool} {err c : Int} {e : Ending} {w' : World} (hg : w.grownBy w1 (some b.rb)) (h : Flt b p w1 steps done err c e w') : Flt b p w steps done err c e w' := ⟨h.1, hg.trans h.2.1, h.2.2⟩
def PopKP (b : Bl) (p : Prg) (w : World) (g : Gh) (k steps seed : Int) (done : Bool) (err : Int) (e : Ending) (w' : World) : Prop :=
  match popK k (ers g.S) with
  | none => Flt b p w steps done err 26 e w'
  | some (S, v) => ∃ (S' : List AV) (x : AV), g.S = S' ++ [x] ∧ ers S' = S ∧ x.er = v ∧ x.kind = k ∧ PopM b p w g S' x.v steps seed done err e w'
theorem popK_any (b : Bl) (p : Prg) (w : World) (g : Gh) (k steps seed : Int) (done : Bool) (err : Int) (hm : Mem b w g) (hR : RB b p w g.sv g.fv steps seed done err) (hn : g.S.length ≤ 1000000) :
    Calls Tryz.prog 138 #[.pointer (some ⟨b.rb, 0, none⟩), iv k] w (PopKP b p w g k steps seed done err) := by
  rcases snoc_cases g.S with h | ⟨S, x, h⟩
  · unfold PopKP
    rw [h]
    exact popK_none b p w g k steps seed done err hm hR h
  · by_cases hk : x.kind = k
    · subst hk
      refine (popK_ok b p w g S x steps seed done err hm hR h hn).mono fun e w' hp => ?_
      unfold PopKP
      have : popK x.kind (ers g.S) = some (ers S, x.er) := by rw [h, ers_append]; simp [popK, er_kind]
      rw [this]
      exact ⟨S, x, h, rfl, rfl, rfl, hp⟩
    · refine (popK_bad b p w g S x k steps seed done err hm hR h hn hk).mono fun e w' hp => ?_
      unfold PopKP
      have : popK k (ers g.S) = none := by rw [h, ers_append]; simp [popK, er_kind, hk]
      rw [this]
      exact hp
set_option maxRecDepth 100000 in
set_option maxHeartbeats 1000000 in
theorem operate_flt1 (b : Bl) (p : Prg) (x : Ins) (w : World) (g : Gh) (steps seed err : Int) (hm : Mem b w g) (hR : RB b p w g.sv g.fv steps seed false err) (hn : g.S.length ≤ 1000000) (h : popK 1 (ers g.S) = none) :
    Calls Tryz.prog 139 #[.pointer (some ⟨b.rb, 0, none⟩), x.val] w (EffP b p w g (.error 26) steps err) := by
  have C1 : ∀ o, Calls Tryz.prog 138 #[.pointer (some ⟨b.rb, 0, none⟩), .int .i64 1] (w.alloc o) (Flt b p w steps false err 26) := fun o =>
    (popK_any b p (w.alloc o) g 1 steps seed false err (hm.alloc o) (hR.alloc o) hn).mono fun e w' hp => by
      unfold PopKP at hp
      rw [h] at hp
      exact Flt.trans (grown_alloc w o _) hp
  have H1 := Lib.hid C1
  clear C1 hm hR hn h
  unfold Ins.val
  go_enter Tryz.func139, Tryz.ntmps139
  go_wp2_with (go_at_call 138; refine (H1.out _).mono ?_; intro e w1 k1; obtain ⟨rfl, k2⟩ := id k1; have K1 := Lib.hid k1; clear k1 k2)
  exact ⟨rfl, K1.out⟩
def Two (b : Bl) (p : Prg) (w : World) (g : Gh) (o : Obj) (S : List AV) (steps seed err : Int) (w' : World) : Prop :=
  w'.heap[w.heap.size]? = some o ∧ w.grownBy w' (some b.rb) ∧ ∃ g2, g2.S = S ∧ g2.F = g.F ∧ Mem b w' g2 ∧ Ch w g w' g2 ∧ RB b p w' g2.sv g2.fv steps seed false err
theorem two_any (b : Bl) (p : Prg) (w : World) (g : Gh) (S : List AV) (u v : AV) (steps seed err : Int) (hm : Mem b w g) (hR : RB b p w g.sv g.fv steps seed false err) (hn : g.S.length ≤ 1000000) (h : g.S = S ++ [u] ++ [v]) (ku kv : Int) (hu : u.kind = ku) (hv : v.kind = kv) :
    (∀ o, Calls Tryz.prog 138 #[.pointer (some ⟨b.rb, 0, none⟩), .int .i64 kv] (w.alloc o) (PopM b p (w.alloc o) g (S ++ [u]) v.v steps seed false err)) ∧
    ∀ o w1 e, PopM b p (w.alloc o) g (S ++ [u]) v.v steps seed false err e w1 → Calls Tryz.prog 138 #[.pointer (some ⟨b.rb, 0, none⟩), .int .i64 ku] w1 fun e w' => e = .returned u.v ∧ Two b p w g o S steps seed err w' := by
  have hl : g.S.length = S.length + 2 := by rw [h]; simp
  have hrb := hR.lt
  refine ⟨fun o => ?_, fun o w1 e ⟨_, h1, sv1, h2, h3⟩ => ?_⟩
  · have := popK_ok b p (w.alloc o) g (S ++ [u]) v steps seed false err (hm.alloc o) (hR.alloc o) h hn
    rwa [hv] at this
  · have := popK_ok b p w1 { g with S := S ++ [u], sv := sv1 } S u steps seed false err h3 h2 rfl (by simp; omega)
    rw [hu] at this
    refine this.mono ?_
    rintro e2 w2 ⟨rfl, k1, sv2, k2, k3⟩
    have hs := h1.size
    simp at hs
    refine ⟨rfl, ?_, (grown_alloc w o _).trans (h1.trans k1), { g with S := S, sv := sv2 }, rfl, rfl, k3, (Ch.only hm ((grown_alloc w o _).trans (h1.trans k1))).retag rfl, k2⟩
    rw [k1.block _ (by omega) (by intro e; have : w.heap.size = b.rb := Option.some.inj e; omega), h1.block _ (by simp) (by intro e; have : w.heap.size = b.rb := Option.some.inj e; omega)]
    exact al_newM w o
theorem Two.bool {b : Bl} {p : Prg} {w : World} {g : Gh} {o : Obj} {S : List AV} {steps seed err : Int} {w' : World} (h : Two b p w g o S steps seed err w') (hn : S.length ≤ 1000000) (q : Bool) :
    Calls Tryz.prog 159 #[.pointer (some ⟨b.rb, 0, none⟩), .bool q] w' (EffP b p w g (.ok ⟨ers S ++ [vBool q], g.F.map Fr.er, seed, false⟩) steps err) := by
  obtain ⟨_, _, g2, rfl, h2, h3, h4, h5⟩ := h
  refine (pushBool_any b p q w' g2 steps seed false err h3 h5 hn).mono ?_
  rintro e w2 ⟨_, w1, k1, k2⟩
  exact EffP.push k2 (h4.trans (Ch.grown k1)) (by rw [AV.num_er, h2]; cases q <;> rfl)
theorem Two.num {b : Bl} {p : Prg} {w : World} {g : Gh} {o : Obj} {S : List AV} {steps seed err : Int} {w' : World} (h : Two b p w g o S steps seed err w') (hn : S.length ≤ 1000000) (n : Int) :
    Calls Tryz.prog 128 #[.pointer (some ⟨b.rb, 0, none⟩), vec 1 n] w' (EffP b p w g (.ok ⟨ers S ++ [vInt n], g.F.map Fr.er, seed, false⟩) steps err) := by
  obtain ⟨_, _, g2, rfl, h2, h3, h4, h5⟩ := h
  refine (push_num b p 1 n w' g2 steps seed false err h3 h5 hn).mono fun e w2 k2 => ?_
  exact EffP.push k2 h4 (by rw [AV.num_er, h2]; rfl)
theorem Two.flt {b : Bl} {p : Prg} {w : World} {g : Gh} {o : Obj} {S : List AV} {steps seed err : Int} {w' : World} (h : Two b p w g o S steps seed err w') (c : Int) : EffP b p w g (.error c) steps err (.panicked (stopC c)) w' := by
  obtain ⟨_, h1, g2, _, _, _, _, h5⟩ := h
  exact ⟨rfl, h1, _, _, _, h5⟩
set_option maxRecDepth 100000 in
set_option maxHeartbeats 1000000 in
theorem operate_eq (b : Bl) (p : Prg) (op xa xb : Int)  (w : World) (g : Gh) (S : List AV) (u v : AV) (steps seed err : Int) (hm : Mem b w g) (hR : RB b p w g.sv g.fv steps seed false err) (hn : g.S.length ≤ 1000000) (h : g.S = S ++ [u] ++ [v]) (hu : u.kind = 1) (hv : v.kind = 1)  :
    Calls Tryz.prog 139 #[.pointer (some ⟨b.rb, 0, none⟩), .agg #[iv op, iv xa, iv xb, tv [61]]] w (EffP b p w g (.ok ⟨ers S ++ [vBool (u.int == v.int)], g.F.map Fr.er, seed, false⟩) steps err) := by
  have hl : S.length ≤ 1000000 := by rw [h] at hn; simp at hn; omega
  obtain ⟨C1, C2⟩ := two_any b p w g S u v steps seed err hm hR hn h 1 1 hu hv
  have C3 := fun (o : Obj) (w' : World) (h : Two b p w g o S steps seed err w') => Two.bool h hl (u.int == v.int)
  have FA := Lib.hid (fun W => fault_any 5 W)
  have FL := Lib.hid (fun (o : Obj) (w' : World) (h : Two b p w g o S steps seed err w') => Two.flt h 5)
  have H1 := Lib.hid C1
  have H2 := Lib.hid C2
  have H3 := Lib.hid C3
  clear C1 C2 C3 hm hR hn h hl hu hv
  have hf := fld1
  unfold AV.v at H1 H2
  generalize u.int = U at *
  generalize v.int = V at *
  go_enter Tryz.func139, Tryz.ntmps139
  go_wp2_with (first | (go_at_call 138; refine (H1.out _).mono ?_; intro e w1 k1; obtain ⟨rfl, k2⟩ := id k1; have K1 := Lib.hid k1; clear k1 k2) | (go_at_call 138; refine (H2.out _ _ _ K1.out).mono ?_; rintro e w2 ⟨rfl, k2⟩; have kb := k2.1; have c3 := Lib.cell_of_heap kb 3; simp at c3; have K2 := Lib.hid k2; clear k2 kb) | (go_at_call 159; refine (H3.out _ _ K2.out).mono ?_; intro e w3 k3; obtain ⟨rfl, k4⟩ := id k3; have K3 := Lib.hid k3; clear k3 k4) | (go_at_call 105; refine (FA.out _).mono ?_; rintro e w3 ⟨rfl, rfl⟩))
  exact bodyPost_ret (v := .tuple #[]) (results_none rfl _ _ _) rfl K3.out
set_option maxRecDepth 100000 in
set_option maxHeartbeats 1000000 in
theorem operate_lt (b : Bl) (p : Prg) (op xa xb : Int)  (w : World) (g : Gh) (S : List AV) (u v : AV) (steps seed err : Int) (hm : Mem b w g) (hR : RB b p w g.sv g.fv steps seed false err) (hn : g.S.length ≤ 1000000) (h : g.S = S ++ [u] ++ [v]) (hu : u.kind = 1) (hv : v.kind = 1)  :
    Calls Tryz.prog 139 #[.pointer (some ⟨b.rb, 0, none⟩), .agg #[iv op, iv xa, iv xb, tv [60]]] w (EffP b p w g (.ok ⟨ers S ++ [vBool (decide (u.int < v.int))], g.F.map Fr.er, seed, false⟩) steps err) := by
  have hl : S.length ≤ 1000000 := by rw [h] at hn; simp at hn; omega
  obtain ⟨C1, C2⟩ := two_any b p w g S u v steps seed err hm hR hn h 1 1 hu hv
  have C3 := fun (o : Obj) (w' : World) (h : Two b p w g o S steps seed err w') => Two.bool h hl (decide (u.int < v.int))
  have FA := Lib.hid (fun W => fault_any 5 W)
  have FL := Lib.hid (fun (o : Obj) (w' : World) (h : Two b p w g o S steps seed err w') => Two.flt h 5)
  have H1 := Lib.hid C1
  have H2 := Lib.hid C2
  have H3 := Lib.hid C3
  clear C1 C2 C3 hm hR hn h hl hu hv
  have hf := fld1
  unfold AV.v at H1 H2
  generalize u.int = U at *
  generalize v.int = V at *
  go_enter Tryz.func139, Tryz.ntmps139
  go_wp2_with (first | (go_at_call 138; refine (H1.out _).mono ?_; intro e w1 k1; obtain ⟨rfl, k2⟩ := id k1; have K1 := Lib.hid k1; clear k1 k2) | (go_at_call 138; refine (H2.out _ _ _ K1.out).mono ?_; rintro e w2 ⟨rfl, k2⟩; have kb := k2.1; have c3 := Lib.cell_of_heap kb 3; simp at c3; have K2 := Lib.hid k2; clear k2 kb) | (go_at_call 159; refine (H3.out _ _ K2.out).mono ?_; intro e w3 k3; obtain ⟨rfl, k4⟩ := id k3; have K3 := Lib.hid k3; clear k3 k4) | (go_at_call 105; refine (FA.out _).mono ?_; rintro e w3 ⟨rfl, rfl⟩))
  exact bodyPost_ret (v := .tuple #[]) (results_none rfl _ _ _) rfl K3.out
set_option maxRecDepth 100000 in
set_option maxHeartbeats 1000000 in
theorem operate_add_ok (b : Bl) (p : Prg) (op xa xb : Int)  (w : World) (g : Gh) (S : List AV) (u v : AV) (steps seed err : Int) (hm : Mem b w g) (hR : RB b p w g.sv g.fv steps seed false err) (hn : g.S.length ≤ 1000000) (h : g.S = S ++ [u] ++ [v]) (hu : u.kind = 1) (hv : v.kind = 1) (hr : -999999999 ≤ Go.RowKit.wrap64 (u.int + v.int) ∧ Go.RowKit.wrap64 (u.int + v.int) ≤ 999999999)  :
    Calls Tryz.prog 139 #[.pointer (some ⟨b.rb, 0, none⟩), .agg #[iv op, iv xa, iv xb, tv [43]]] w (EffP b p w g (.ok ⟨ers S ++ [vInt (Go.RowKit.wrap64 (u.int + v.int))], g.F.map Fr.er, seed, false⟩) steps err) := by
  have hl : S.length ≤ 1000000 := by rw [h] at hn; simp at hn; omega
  obtain ⟨C1, C2⟩ := two_any b p w g S u v steps seed err hm hR hn h 1 1 hu hv
  have C3 := fun (o : Obj) (w' : World) (h : Two b p w g o S steps seed err w') => Two.num h hl (Go.RowKit.wrap64 (u.int + v.int))
  have FA := Lib.hid (fun W => fault_any 5 W)
  have FL := Lib.hid (fun (o : Obj) (w' : World) (h : Two b p w g o S steps seed err w') => Two.flt h 5)
  have H1 := Lib.hid C1
  have H2 := Lib.hid C2
  have H3 := Lib.hid C3
  clear C1 C2 C3 hm hR hn h hl hu hv
  have hf := fld1
  unfold AV.v at H1 H2
  generalize u.int = U at *
  generalize v.int = V at *
  obtain ⟨r1, r2⟩ := hr
  go_enter Tryz.func139, Tryz.ntmps139
  go_wp2_with (first | (go_at_call 138; refine (H1.out _).mono ?_; intro e w1 k1; obtain ⟨rfl, k2⟩ := id k1; have K1 := Lib.hid k1; clear k1 k2) | (go_at_call 138; refine (H2.out _ _ _ K1.out).mono ?_; rintro e w2 ⟨rfl, k2⟩; have kb := k2.1; have c3 := Lib.cell_of_heap kb 3; simp at c3; have K2 := Lib.hid k2; clear k2 kb) | (go_at_call 128; refine (H3.out _ _ K2.out).mono ?_; intro e w3 k3; obtain ⟨rfl, k4⟩ := id k3; have K3 := Lib.hid k3; clear k3 k4) | (go_at_call 105; refine (FA.out _).mono ?_; rintro e w3 ⟨rfl, rfl⟩))
  exact bodyPost_ret (v := .tuple #[]) (results_none rfl _ _ _) rfl K3.out
set_option maxRecDepth 100000 in
set_option maxHeartbeats 1000000 in
theorem operate_add_flt (b : Bl) (p : Prg) (op xa xb : Int)  (w : World) (g : Gh) (S : List AV) (u v : AV) (steps seed err : Int) (hm : Mem b w g) (hR : RB b p w g.sv g.fv steps seed false err) (hn : g.S.length ≤ 1000000) (h : g.S = S ++ [u] ++ [v]) (hu : u.kind = 1) (hv : v.kind = 1) (hr : Go.RowKit.wrap64 (u.int + v.int) < -999999999 ∨ 999999999 < Go.RowKit.wrap64 (u.int + v.int))  :
    Calls Tryz.prog 139 #[.pointer (some ⟨b.rb, 0, none⟩), .agg #[iv op, iv xa, iv xb, tv [43]]] w (EffP b p w g (.error 5) steps err) := by
  have hl : S.length ≤ 1000000 := by rw [h] at hn; simp at hn; omega
  obtain ⟨C1, C2⟩ := two_any b p w g S u v steps seed err hm hR hn h 1 1 hu hv
  have C3 := fun (o : Obj) (w' : World) (h : Two b p w g o S steps seed err w') => Two.num h hl (Go.RowKit.wrap64 (u.int + v.int))
  have FA := Lib.hid (fun W => fault_any 5 W)
  have FL := Lib.hid (fun (o : Obj) (w' : World) (h : Two b p w g o S steps seed err w') => Two.flt h 5)
  have H1 := Lib.hid C1
  have H2 := Lib.hid C2
  have H3 := Lib.hid C3
  clear C1 C2 C3 hm hR hn h hl hu hv
  have hf := fld1
  unfold AV.v at H1 H2
  generalize u.int = U at *
  generalize v.int = V at *
  rcases hr with r1 | r1
  all_goals
    go_enter Tryz.func139, Tryz.ntmps139
    go_wp2_with (first | (go_at_call 138; refine (H1.out _).mono ?_; intro e w1 k1; obtain ⟨rfl, k2⟩ := id k1; have K1 := Lib.hid k1; clear k1 k2) | (go_at_call 138; refine (H2.out _ _ _ K1.out).mono ?_; rintro e w2 ⟨rfl, k2⟩; have kb := k2.1; have c3 := Lib.cell_of_heap kb 3; simp at c3; have K2 := Lib.hid k2; clear k2 kb) | (go_at_call 128; refine (H3.out _ _ K2.out).mono ?_; intro e w3 k3; obtain ⟨rfl, k4⟩ := id k3; have K3 := Lib.hid k3; clear k3 k4) | (go_at_call 105; refine (FA.out _).mono ?_; rintro e w3 ⟨rfl, rfl⟩))
    exact ⟨rfl, FL.out _ _ K2.out⟩
set_option maxRecDepth 100000 in
set_option maxHeartbeats 1000000 in
theorem operate_sub_ok (b : Bl) (p : Prg) (op xa xb : Int)  (w : World) (g : Gh) (S : List AV) (u v : AV) (steps seed err : Int) (hm : Mem b w g) (hR : RB b p w g.sv g.fv steps seed false err) (hn : g.S.length ≤ 1000000) (h : g.S = S ++ [u] ++ [v]) (hu : u.kind = 1) (hv : v.kind = 1) (hr : -999999999 ≤ Go.RowKit.wrap64 (u.int - v.int) ∧ Go.RowKit.wrap64 (u.int - v.int) ≤ 999999999)  :
    Calls Tryz.prog 139 #[.pointer (some ⟨b.rb, 0, none⟩), .agg #[iv op, iv xa, iv xb, tv [45]]] w (EffP b p w g (.ok ⟨ers S ++ [vInt (Go.RowKit.wrap64 (u.int - v.int))], g.F.map Fr.er, seed, false⟩) steps err) := by
  have hl : S.length ≤ 1000000 := by rw [h] at hn; simp at hn; omega
  obtain ⟨C1, C2⟩ := two_any b p w g S u v steps seed err hm hR hn h 1 1 hu hv
  have C3 := fun (o : Obj) (w' : World) (h : Two b p w g o S steps seed err w') => Two.num h hl (Go.RowKit.wrap64 (u.int - v.int))
  have FA := Lib.hid (fun W => fault_any 5 W)
  have FL := Lib.hid (fun (o : Obj) (w' : World) (h : Two b p w g o S steps seed err w') => Two.flt h 5)
  have H1 := Lib.hid C1
  have H2 := Lib.hid C2
  have H3 := Lib.hid C3
  clear C1 C2 C3 hm hR hn h hl hu hv
  have hf := fld1
  unfold AV.v at H1 H2
  generalize u.int = U at *
  generalize v.int = V at *
  obtain ⟨r1, r2⟩ := hr
  go_enter Tryz.func139, Tryz.ntmps139
  go_wp2_with (first | (go_at_call 138; refine (H1.out _).mono ?_; intro e w1 k1; obtain ⟨rfl, k2⟩ := id k1; have K1 := Lib.hid k1; clear k1 k2) | (go_at_call 138; refine (H2.out _ _ _ K1.out).mono ?_; rintro e w2 ⟨rfl, k2⟩; have kb := k2.1; have c3 := Lib.cell_of_heap kb 3; simp at c3; have K2 := Lib.hid k2; clear k2 kb) | (go_at_call 128; refine (H3.out _ _ K2.out).mono ?_; intro e w3 k3; obtain ⟨rfl, k4⟩ := id k3; have K3 := Lib.hid k3; clear k3 k4) | (go_at_call 105; refine (FA.out _).mono ?_; rintro e w3 ⟨rfl, rfl⟩))
  exact bodyPost_ret (v := .tuple #[]) (results_none rfl _ _ _) rfl K3.out
set_option maxRecDepth 100000 in
set_option maxHeartbeats 1000000 in
theorem operate_sub_flt (b : Bl) (p : Prg) (op xa xb : Int)  (w : World) (g : Gh) (S : List AV) (u v : AV) (steps seed err : Int) (hm : Mem b w g) (hR : RB b p w g.sv g.fv steps seed false err) (hn : g.S.length ≤ 1000000) (h : g.S = S ++ [u] ++ [v]) (hu : u.kind = 1) (hv : v.kind = 1) (hr : Go.RowKit.wrap64 (u.int - v.int) < -999999999 ∨ 999999999 < Go.RowKit.wrap64 (u.int - v.int))  :
    Calls Tryz.prog 139 #[.pointer (some ⟨b.rb, 0, none⟩), .agg #[iv op, iv xa, iv xb, tv [45]]] w (EffP b p w g (.error 5) steps err) := by
  have hl : S.length ≤ 1000000 := by rw [h] at hn; simp at hn; omega
  obtain ⟨C1, C2⟩ := two_any b p w g S u v steps seed err hm hR hn h 1 1 hu hv
  have C3 := fun (o : Obj) (w' : World) (h : Two b p w g o S steps seed err w') => Two.num h hl (Go.RowKit.wrap64 (u.int - v.int))
  have FA := Lib.hid (fun W => fault_any 5 W)
  have FL := Lib.hid (fun (o : Obj) (w' : World) (h : Two b p w g o S steps seed err w') => Two.flt h 5)
  have H1 := Lib.hid C1
  have H2 := Lib.hid C2
  have H3 := Lib.hid C3
  clear C1 C2 C3 hm hR hn h hl hu hv
  have hf := fld1
  unfold AV.v at H1 H2
  generalize u.int = U at *
  generalize v.int = V at *
  rcases hr with r1 | r1
  all_goals
    go_enter Tryz.func139, Tryz.ntmps139
    go_wp2_with (first | (go_at_call 138; refine (H1.out _).mono ?_; intro e w1 k1; obtain ⟨rfl, k2⟩ := id k1; have K1 := Lib.hid k1; clear k1 k2) | (go_at_call 138; refine (H2.out _ _ _ K1.out).mono ?_; rintro e w2 ⟨rfl, k2⟩; have kb := k2.1; have c3 := Lib.cell_of_heap kb 3; simp at c3; have K2 := Lib.hid k2; clear k2 kb) | (go_at_call 128; refine (H3.out _ _ K2.out).mono ?_; intro e w3 k3; obtain ⟨rfl, k4⟩ := id k3; have K3 := Lib.hid k3; clear k3 k4) | (go_at_call 105; refine (FA.out _).mono ?_; rintro e w3 ⟨rfl, rfl⟩))
    exact ⟨rfl, FL.out _ _ K2.out⟩
set_option maxRecDepth 100000 in
set_option maxHeartbeats 1000000 in
theorem operate_mul_ok (b : Bl) (p : Prg) (op xa xb : Int) (name : T)  (w : World) (g : Gh) (S : List AV) (u v : AV) (steps seed err : Int) (hm : Mem b w g) (hR : RB b p w g.sv g.fv steps seed false err) (hn : g.S.length ≤ 1000000) (h : g.S = S ++ [u] ++ [v]) (hu : u.kind = 1) (hv : v.kind = 1) (hr : -999999999 ≤ Go.RowKit.wrap64 (u.int * v.int) ∧ Go.RowKit.wrap64 (u.int * v.int) ≤ 999999999) (n1 : (name == [61]) = false) (n2 : (name == [60]) = false) (n3 : (name == [43]) = false) (n4 : (name == [45]) = false)  :
    Calls Tryz.prog 139 #[.pointer (some ⟨b.rb, 0, none⟩), .agg #[iv op, iv xa, iv xb, tv name]] w (EffP b p w g (.ok ⟨ers S ++ [vInt (Go.RowKit.wrap64 (u.int * v.int))], g.F.map Fr.er, seed, false⟩) steps err) := by
  have hl : S.length ≤ 1000000 := by rw [h] at hn; simp at hn; omega
  obtain ⟨C1, C2⟩ := two_any b p w g S u v steps seed err hm hR hn h 1 1 hu hv
  have C3 := fun (o : Obj) (w' : World) (h : Two b p w g o S steps seed err w') => Two.num h hl (Go.RowKit.wrap64 (u.int * v.int))
  have FA := Lib.hid (fun W => fault_any 5 W)
  have FL := Lib.hid (fun (o : Obj) (w' : World) (h : Two b p w g o S steps seed err w') => Two.flt h 5)
  have H1 := Lib.hid C1
  have H2 := Lib.hid C2
  have H3 := Lib.hid C3
  clear C1 C2 C3 hm hR hn h hl hu hv
  have hf := fld1
  unfold AV.v at H1 H2
  generalize u.int = U at *
  generalize v.int = V at *
  obtain ⟨r1, r2⟩ := hr
  go_enter Tryz.func139, Tryz.ntmps139
  go_wp2_with (first | (go_at_call 138; refine (H1.out _).mono ?_; intro e w1 k1; obtain ⟨rfl, k2⟩ := id k1; have K1 := Lib.hid k1; clear k1 k2) | (go_at_call 138; refine (H2.out _ _ _ K1.out).mono ?_; rintro e w2 ⟨rfl, k2⟩; have kb := k2.1; have c3 := Lib.cell_of_heap kb 3; simp at c3; have K2 := Lib.hid k2; clear k2 kb) | (go_at_call 128; refine (H3.out _ _ K2.out).mono ?_; intro e w3 k3; obtain ⟨rfl, k4⟩ := id k3; have K3 := Lib.hid k3; clear k3 k4) | (go_at_call 105; refine (FA.out _).mono ?_; rintro e w3 ⟨rfl, rfl⟩))
  exact bodyPost_ret (v := .tuple #[]) (results_none rfl _ _ _) rfl K3.out
set_option maxRecDepth 100000 in
set_option maxHeartbeats 1000000 in
theorem operate_mul_flt (b : Bl) (p : Prg) (op xa xb : Int) (name : T)  (w : World) (g : Gh) (S : List AV) (u v : AV) (steps seed err : Int) (hm : Mem b w g) (hR : RB b p w g.sv g.fv steps seed false err) (hn : g.S.length ≤ 1000000) (h : g.S = S ++ [u] ++ [v]) (hu : u.kind = 1) (hv : v.kind = 1) (hr : Go.RowKit.wrap64 (u.int * v.int) < -999999999 ∨ 999999999 < Go.RowKit.wrap64 (u.int * v.int)) (n1 : (name == [61]) = false) (n2 : (name == [60]) = false) (n3 : (name == [43]) = false) (n4 : (name == [45]) = false)  :
    Calls Tryz.prog 139 #[.pointer (some ⟨b.rb, 0, none⟩), .agg #[iv op, iv xa, iv xb, tv name]] w (EffP b p w g (.error 5) steps err) := by
  have hl : S.length ≤ 1000000 := by rw [h] at hn; simp at hn; omega
  obtain ⟨C1, C2⟩ := two_any b p w g S u v steps seed err hm hR hn h 1 1 hu hv
  have C3 := fun (o : Obj) (w' : World) (h : Two b p w g o S steps seed err w') => Two.num h hl (Go.RowKit.wrap64 (u.int * v.int))
  have FA := Lib.hid (fun W => fault_any 5 W)
  have FL := Lib.hid (fun (o : Obj) (w' : World) (h : Two b p w g o S steps seed err w') => Two.flt h 5)
  have H1 := Lib.hid C1
  have H2 := Lib.hid C2
  have H3 := Lib.hid C3
  clear C1 C2 C3 hm hR hn h hl hu hv
  have hf := fld1
  unfold AV.v at H1 H2
  generalize u.int = U at *
  generalize v.int = V at *
  rcases hr with r1 | r1
  all_goals
    go_enter Tryz.func139, Tryz.ntmps139
    go_wp2_with (first | (go_at_call 138; refine (H1.out _).mono ?_; intro e w1 k1; obtain ⟨rfl, k2⟩ := id k1; have K1 := Lib.hid k1; clear k1 k2) | (go_at_call 138; refine (H2.out _ _ _ K1.out).mono ?_; rintro e w2 ⟨rfl, k2⟩; have kb := k2.1; have c3 := Lib.cell_of_heap kb 3; simp at c3; have K2 := Lib.hid k2; clear k2 kb) | (go_at_call 128; refine (H3.out _ _ K2.out).mono ?_; intro e w3 k3; obtain ⟨rfl, k4⟩ := id k3; have K3 := Lib.hid k3; clear k3 k4) | (go_at_call 105; refine (FA.out _).mono ?_; rintro e w3 ⟨rfl, rfl⟩))
    exact ⟨rfl, FL.out _ _ K2.out⟩
end Go.Proofs.YtgboboljgcfggaaGreatDoor
namespace Go.Proofs.YtgboboljgcfggaaGreatDoor
open Go.RowKit
theorem flat_atM {α : Type} (f : α → List Value) (m : Nat) (h : ∀ x, (f x).length = m) {x : α} {i : Nat} (hi : i < m) : ∀ (L : List α) (j : Nat), L[j]? = some x → (L.flatMap f)[j * m + i]? = (f x)[i]? := by
  intro L
  induction L with
  | nil => intro j hj; simp at hj
  | cons y L ih =>
    intro j hj
    cases j with
    | zero =>
      simp at hj
      subst hj
      simp only [List.flatMap_cons, Nat.zero_mul, Nat.zero_add]
      rw [List.getElem?_append_left (by rw [h]; exact hi)]
    | succ j =>
      simp only [List.flatMap_cons]
      have e : (j + 1) * m = j * m + m := by rw [Nat.add_mul, Nat.one_mul]
      rw [List.getElem?_append_right (by rw [h]; omega), h, show (j + 1) * m + i - m = j * m + i by omega]
      exact ih j (by simpa using hj)
theorem flat_setM {α : Type} (f : α → List Value) (m : Nat) (h : ∀ x, (f x).length = m) {x x' : α} {i : Nat} {u : Value} (hx : f x' = (f x).set i u) (L : List α) : (L ++ [x']).flatMap f = ((L ++ [x]).flatMap f).set (L.length * m + i) u := by
  simp only [List.flatMap_append, List.flatMap_cons, List.flatMap_nil, List.append_nil, hx]
  rw [List.set_append_right _ _ (by rw [flat_lenM f m h]; omega), flat_lenM f m h, show L.length * m + i - L.length * m = i by omega]
theorem Mem.fform {b : Bl} {w : World} {g : Gh} (h : Mem b w g) : (g.fv = .slice none 0 0 ∧ g.F = []) ∨ ∃ fb c, g.fv = .slice (some ⟨fb, 0, none⟩) g.F.length c ∧ g.F.length ≤ c ∧ fb < w.heap.size ∧ b.B ≤ fb ∧ g.tag fb = .own ∧ (∃ cur, w.heap[fb]? = some (.cells cur 158 (0, 0))) ∧ ∀ (j : Nat) x, g.F[j]? = some x → ∀ i, i < 3 → w.cell? ⟨fb, j * 3 + i, none⟩ = x.cs[i]? := by
  rcases h.fr.2 with ⟨h1, h2⟩ | ⟨gg, cap, cur, e, hB, hg, hnc, _⟩
  · exact .inl ⟨h1, List.eq_nil_of_length_eq_zero h2⟩
  · refine .inr ⟨gg, cap, e, hnc, heap_ltM hg, hB, h.frt gg (by rw [e]; rfl), ⟨_, hg⟩, fun j x hj i hi => ?_⟩
    have hst := h.fr
    rw [e] at hst
    have hlt : j < g.F.length := by
      rcases Nat.lt_or_ge j g.F.length with h' | h'
      · exact h'
      · rw [List.getElem?_eq_none h'] at hj; cases hj
    rw [World.ownsRow.cellAt hst _ (by omega)]
    exact flat_atM Fr.cs 3 Fr.cs_len hi g.F j hj
theorem Mem.setTop {b : Bl} {w : World} {g : Gh} (h : Mem b w g) {G : List Fr} {f f' : Fr} (hF : g.F = G ++ [f]) {fb c : Nat} (hv : g.fv = .slice (some ⟨fb, 0, none⟩) g.F.length c) {i : Nat} {u : Value} (hcs : f'.cs = f.cs.set i u) (hf : FOk b.B g.tag w G.length f') :
    Mem b (w.setCell ⟨fb, (g.F.length - 1) * 3 + i, none⟩ u) { g with F := G ++ [f'] } ∧ Ch w g (w.setCell ⟨fb, (g.F.length - 1) * 3 + i, none⟩ u) { g with F := G ++ [f'] } := by
  have hl : g.F.length = G.length + 1 := by rw [hF]; simp
  have hst := h.fr
  rw [hv] at hst
  obtain ⟨hB, hlt⟩ := World.ownsRow.lt hst fb rfl
  have ht : g.tag fb = .own := h.frt fb (by rw [hv]; rfl)
  have hcell : ∃ cur, w.heap[fb]? = some (.cells cur 158 (0, 0)) := by
    rcases hst.2 with ⟨e, _⟩ | ⟨g2, cap, cur, e, _, hg, _⟩
    · cases e
    · simp only [Value.slice.injEq, Option.some.injEq, Addr.mk.injEq, and_true, true_and] at e
      obtain ⟨rfl, rfl⟩ := e
      exact ⟨_, hg⟩
  obtain ⟨cur, hcur⟩ := hcell
  obtain ⟨r1, _⟩ := World.ownsRow.stored hst ((g.F.length - 1) * 3 + i) u
  have hrest : ∀ k, k < w.heap.size → ¬ k = fb → (w.setCell ⟨fb, (g.F.length - 1) * 3 + i, none⟩ u).heap[k]? = w.heap[k]? := fun k _ hne => Below.heap_setCell _ _ _ _ hne
  have htag : g.tag = upT g.tag fb .own := by
    funext k
    by_cases e : k = fb
    · subst e; rw [upT_at, ht]
    · rw [upT_ne _ _ e]
  have key : (G ++ [f']).flatMap Fr.cs = (g.F.flatMap Fr.cs).set ((g.F.length - 1) * 3 + i) u := by
    rw [hF]
    have : (G ++ [f]).length - 1 = G.length := by simp
    rw [this]
    exact flat_setM Fr.cs 3 Fr.cs_len hcs G
  refine Mem.one (g' := { g with F := G ++ [f'] }) h rfl rfl rfl (by simp) (fun k => k = fb) fb rfl (fun k hk => by subst hk; exact hB) (by simp; exact hlt) (fun k hk _ => by subst hk; exact ⟨ht, cur, 158, hcur, .inr rfl⟩) (fun k hk hne _ => hrest k hk hne) htag rfl
    (row_keep h.st fun k cur' e1 e2 => hrest k (heap_ltM e2) fun e => by subst e; rw [hcur] at e2; simp at e2) (fun k e => .inr (h.stt k e)) ?_ (fun k e => .inr (h.frt k e)) h.sr ?_ (fun k hk hne _ => hrest k hk hne)
  · simp only []
    rw [key, hv, show (G ++ [f']).length = g.F.length by rw [hF]; simp]
    exact r1
  · intro d f2 hd
    simp only [] at hd
    rcases Nat.lt_or_ge d G.length with h1 | h1
    · rw [List.getElem?_append_left h1] at hd
      exact h.fl d f2 (by rw [hF, List.getElem?_append_left h1]; exact hd)
    · rw [List.getElem?_append_right h1] at hd
      have hd0 : d - G.length = 0 := by
        rcases Nat.lt_or_ge (d - G.length) 1 with h2 | h2
        · omega
        · rw [List.getElem?_eq_none (by simpa using h2)] at hd; cases hd
      rw [hd0] at hd
      simp at hd
      subst hd
      rw [show d = G.length by omega]
      exact hf
theorem Mem.top {b : Bl} {w : World} {g : Gh} (h : Mem b w g) {G : List Fr} {f : Fr} (hF : g.F = G ++ [f]) : FOk b.B g.tag w G.length f := h.fl G.length f (by rw [hF]; simp)
theorem FOk.at_ {B : Nat} {tag : Nat → Tag} {w : World} {d : Nat} {f : Fr} (h : FOk B tag w d f) (n : Int) : FOk B tag w d { f with at_ := n } := ⟨h.l, h.na, h.sp⟩
theorem Mem.cutF {b : Bl} {w : World} {g : Gh} (h : Mem b w g) {G : List Fr} {f : Fr} (hF : g.F = G ++ [f]) {fb c : Nat} (hv : g.fv = .slice (some ⟨fb, 0, none⟩) g.F.length c) : Mem b w { g with F := G, fv := .slice (some ⟨fb, 0, none⟩) (g.F.length - 1) c } := by
  have hl : g.F.length = G.length + 1 := by rw [hF]; simp
  have hl2 : g.F.length - 1 = G.length := by omega
  refine { h with fr := ?_, frt := fun k e => h.frt k (by rw [hv]; exact e), fl := fun d f' hd => h.fl d f' (by
    rw [hF]
    simp only [] at hd
    rcases Nat.lt_or_ge d G.length with h1 | h1
    · rw [List.getElem?_append_left h1]; exact hd
    · rw [List.getElem?_eq_none h1] at hd; cases hd) }
  have h1 := h.fr
  rw [hv] at h1
  rcases h1.2 with ⟨e, _⟩ | ⟨g2, cap, cur, e, hb, hg, hnc, hm, hcs, ht⟩
  · cases e
  · simp only [Value.slice.injEq, Option.some.injEq, Addr.mk.injEq, and_true, true_and] at e
    obtain ⟨rfl, rfl⟩ := e
    refine ⟨by simp only [flat3], .inr ⟨fb, c, cur, by simp only [hl2], hb, hg, by simp only []; omega, hm, hcs, ?_⟩⟩
    simp only []
    have e2 : g.F.flatMap Fr.cs = G.flatMap Fr.cs ++ f.cs := by rw [hF]; simp
    rw [e2] at ht
    have e3 := congrArg (List.take (G.length * 3)) ht
    rw [List.take_take, Nat.min_eq_left (by omega), List.take_append_of_le_length (by rw [flat3]; exact Nat.le_refl _)] at e3
    rw [e3, List.take_of_length_le (by rw [flat3]; exact Nat.le_refl _)]
theorem top_mem (b : Bl) (p : Prg) (w : World) (g : Gh) (steps seed : Int) (done : Bool) (err : Int) (fb c : Nat) (hR : RB b p w g.sv g.fv steps seed done err) (hv : g.fv = .slice (some ⟨fb, 0, none⟩) g.F.length c) (hn : 0 < g.F.length) (hn2 : g.F.length ≤ 1000000) :
    Calls Tryz.prog 106 #[.pointer (some ⟨b.rb, 0, none⟩)] w fun e w' => e = .returned (.pointer (some ⟨fb, (g.F.length - 1) * 3, none⟩)) ∧ ∃ k, w' = w.drewN k :=
  top_any b.rb fb g.F.length c w hn hn2 (by rw [hR.c 3, ← hv]; rfl)
end Go.Proofs.YtgboboljgcfggaaGreatDoor
namespace Go.Proofs.YtgboboljgcfggaaGreatDoor
open Go.RowKit
theorem EffP.flt {b : Bl} {p : Prg} {w w1 : World} {g : Gh} {steps err c : Int} {e : Ending} {w' : World} (hg : w.grownBy w1 (some b.rb)) (h : Flt b p w1 steps false err c e w') : EffP b p w g (.error c) steps err e w' := h.trans hg
theorem EffP.mk {b : Bl} {p : Prg} {w : World} {g g' : Gh} {S : List MV} {F : List MF} {steps seed err : Int} {done : Bool} {w' : World} (hm : Mem b w' g') (hc : Ch w g w' g') (hR : RB b p w' g'.sv g'.fv steps seed done err) (hS : ers g'.S = S) (hF : g'.F.map Fr.er = F) : EffP b p w g (.ok ⟨S, F, seed, done⟩) steps err (.returned (.tuple #[])) w' :=
  ⟨rfl, g', hm, hc, hR, hS, hF⟩
theorem EffP.jump {b : Bl} {p : Prg} {w W : World} {g g1 : Gh} {G : List Fr} {f : Fr} {steps seed err a : Int} {fb c : Nat} (hm : Mem b W g1) (hc : Ch w g W g1) (hR : RB b p W g1.sv g1.fv steps seed false err) (hF : g1.F = G ++ [f]) (hv : g1.fv = .slice (some ⟨fb, 0, none⟩) g1.F.length c) (hne : b.rb ≠ fb) :
    EffP b p w g (.ok ⟨ers g1.S, G.map Fr.er ++ [{ f.er with at_ := a }], seed, false⟩) steps err (.returned (.tuple #[])) (W.setCell ⟨fb, (g1.F.length - 1) * 3 + 1, none⟩ (iv a)) := by
  obtain ⟨m1, c1⟩ := hm.setTop (f' := { f with at_ := a }) hF hv (i := 1) (u := iv a) rfl ((hm.top hF).at_ a)
  exact EffP.mk m1 (hc.trans c1) (hR.keep (Below.heap_setCell _ _ _ _ hne)) rfl (by simp [Fr.er])
theorem fb_ne {b : Bl} {p : Prg} {w : World} {sv fv : Value} {steps seed err : Int} {done : Bool} (hR : RB b p w sv fv steps seed done err) {fb : Nat} {cur : Array Value} (h : w.heap[fb]? = some (.cells cur 158 (0, 0))) : b.rb ≠ fb := fun e => by
  subst e
  have := hR.symm.trans h
  simp at this
set_option maxRecDepth 100000 in
set_option maxHeartbeats 1000000 in
theorem eff_jump (b : Bl) (p : Prg) (op xa xb : Int) (name : T) (w : World) (g : Gh) (G : List Fr) (f : Fr) (steps seed err : Int) (hm : Mem b w g) (hR : RB b p w g.sv g.fv steps seed false err) (hF : g.F = G ++ [f]) (hn : g.F.length ≤ 1000000) :
    Calls Tryz.prog 136 #[.agg #[iv op, iv xa, iv xb, tv name], .pointer (some ⟨b.tb, 0, none⟩)] w (EffP b p w g (.ok ⟨ers g.S, G.map Fr.er ++ [{ f.er with at_ := xa }], seed, false⟩) steps err) := by
  have hl : g.F.length = G.length + 1 := by rw [hF]; simp
  rcases hm.fform with ⟨_, h⟩ | ⟨fb, c, hv, hnc, hfb, hB, htg, ⟨cur, hcur⟩, hc⟩
  · rw [h] at hF; simp at hF
  · have hne := fb_ne hR hcur
    have fin : ∀ o k, EffP b p w g (.ok ⟨ers g.S, G.map Fr.er ++ [{ f.er with at_ := xa }], seed, false⟩) steps err (.returned (.tuple #[])) (((w.alloc o).drewN k).setCell ⟨fb, (g.F.length - 1) * 3 + 1, none⟩ (iv xa)) := fun o k =>
      EffP.jump ((hm.alloc o).drewN k) (Ch.grown ((grown_alloc w o _).trans (grown_drewN _ k _))) (hR.alloc o) hF hv hne
    have C1 := fun (o : Obj) (k : Nat) => top_mem b p ((w.alloc o).drewN k) g steps seed false err fb c (hR.alloc o) hv (by omega) hn
    have ct := fun o => tb_cell' hm o
    have hat := hc (g.F.length - 1) f (by rw [hF]; simp) 1 (by omega)
    simp [Fr.cs] at hat
    have q1 := fun o => cell_al hat (by exact hfb) o
    have q2 : ∀ o, (w.alloc o).frozen? ⟨fb, (g.F.length - 1) * 3 + 1, none⟩ = false := fun o => by
      have := Below.heap_alloc w o fb hfb
      rw [hcur] at this
      simp [World.frozen?, this]
    have FIN := Lib.hid fin
    have H1 := Lib.hid C1
    generalize (g.F.length - 1) * 3 = ft at *
    clear fin C1 hm hR hF hn hc hat hcur hfb hl hnc hv
    go_enter Tryz.func136, Tryz.ntmps136
    go_wp2
    go_region_with (go_at_call 106; refine (H1.out _ _).mono ?_; rintro e w1 ⟨rfl, k, rfl⟩)
    all_goals go_wp2
    all_goals exact bodyPost_ret (v := .tuple #[]) (results_none rfl _ _ _) rfl (FIN.out _ _)
def One (b : Bl) (p : Prg) (w : World) (g : Gh) (o : Obj) (S : List AV) (steps seed err : Int) (w' : World) : Prop :=
  w'.heap[w.heap.size]? = some o ∧ w.grownBy w' (some b.rb) ∧ ∃ g2, g2.S = S ∧ g2.F = g.F ∧ g2.fv = g.fv ∧ g2.tag = g.tag ∧ Mem b w' g2 ∧ Ch w g w' g2 ∧ RB b p w' g2.sv g2.fv steps seed false err
theorem One.of {b : Bl} {p : Prg} {w : World} {g : Gh} {o : Obj} {S : List AV} {v : Value} {steps seed err : Int} {e : Ending} {w' : World} (hm : Mem b w g) (hrb : b.rb < w.heap.size) (h : PopM b p (w.alloc o) g S v steps seed false err e w') : One b p w g o S steps seed err w' := by
  obtain ⟨_, h1, sv1, h2, h3⟩ := h
  refine ⟨?_, (grown_alloc w o _).trans h1, { g with S := S, sv := sv1 }, rfl, rfl, rfl, rfl, h3, (Ch.only hm ((grown_alloc w o _).trans h1)).retag rfl, h2⟩
  rw [h1.block _ (by simp) (by intro e; have : w.heap.size = b.rb := Option.some.inj e; omega)]
  exact al_newM w o
theorem one_any (b : Bl) (p : Prg) (w : World) (g : Gh) (S : List AV) (x : AV) (k steps seed err : Int) (hm : Mem b w g) (hR : RB b p w g.sv g.fv steps seed false err) (hn : g.S.length ≤ 1000000) (h : g.S = S ++ [x]) (hk : x.kind = k) (o : Obj) :
    Calls Tryz.prog 138 #[.pointer (some ⟨b.rb, 0, none⟩), .int .i64 k] (w.alloc o) fun e w' => e = .returned x.v ∧ One b p w g o S steps seed err w' := by
  have := popK_ok b p (w.alloc o) g S x steps seed false err (hm.alloc o) (hR.alloc o) h hn
  rw [hk] at this
  exact this.mono fun e w' h => ⟨h.1, One.of hm hR.lt h⟩
theorem flt_any (b : Bl) (p : Prg) (w : World) (g : Gh) (k steps seed err : Int) (hm : Mem b w g) (hR : RB b p w g.sv g.fv steps seed false err) (hn : g.S.length ≤ 1000000) (h : popK k (ers g.S) = none) (o : Obj) :
    Calls Tryz.prog 138 #[.pointer (some ⟨b.rb, 0, none⟩), .int .i64 k] (w.alloc o) (EffP b p w g (.error 26) steps err) :=
  (popK_any b p (w.alloc o) g k steps seed false err (hm.alloc o) (hR.alloc o) hn).mono fun e w' hp => by
    unfold PopKP at hp
    rw [h] at hp
    exact EffP.flt (grown_alloc w o _) hp
structure Top (b : Bl) (w : World) (g : Gh) (f : Fr) (fb c ft : Nat) : Prop where
  hv : g.fv = .slice (some ⟨fb, 0, none⟩) g.F.length c
  hft : ft = (g.F.length - 1) * 3
  hB : b.B ≤ fb
  htg : g.tag fb = .own
  hlt : fb < w.heap.size
  hcur : ∃ cur, w.heap[fb]? = some (.cells cur 158 (0, 0))
  hc : ∀ i, i < 3 → w.cell? ⟨fb, ft + i, none⟩ = f.cs[i]?
theorem Mem.isTop {b : Bl} {w : World} {g : Gh} (hm : Mem b w g) {G : List Fr} {f : Fr} (hF : g.F = G ++ [f]) : ∃ fb c ft, Top b w g f fb c ft := by
  rcases hm.fform with ⟨_, h⟩ | ⟨fb, c, hv, _, hfb, hB, htg, hcur, hc⟩
  · rw [h] at hF; simp at hF
  · exact ⟨fb, c, _, hv, rfl, hB, htg, hfb, hcur, fun i hi => hc _ f (by rw [hF]; simp) i hi⟩
theorem Top.at {b : Bl} {w w' : World} {g g' : Gh} {f : Fr} {fb c ft : Nat} (h : Top b w g f fb c ft) (he : w'.heap[fb]? = w.heap[fb]?) (h1 : g'.fv = g.fv) (h2 : g'.F = g.F) (h3 : g'.tag = g.tag) : Top b w' g' f fb c ft := by
  obtain ⟨cur, hc⟩ := h.hcur
  exact ⟨by rw [h1, h2]; exact h.hv, by rw [h2]; exact h.hft, h.hB, by rw [h3]; exact h.htg, heap_ltM (he.trans hc), ⟨cur, he.trans hc⟩, fun i hi => (World.cell?_of_block (w := w) he).trans (h.hc i hi)⟩
theorem Top.fz {b : Bl} {w : World} {g : Gh} {f : Fr} {fb c ft : Nat} (h : Top b w g f fb c ft) (j : Nat) : w.frozen? ⟨fb, j, none⟩ = false := by
  obtain ⟨cur, hc⟩ := h.hcur
  simp [World.frozen?, hc]
theorem One.top {b : Bl} {p : Prg} {w : World} {g : Gh} {o : Obj} {S : List AV} {steps seed err : Int} {w' : World} (h : One b p w g o S steps seed err w') {f : Fr} {fb c ft : Nat} (ht : Top b w g f fb c ft) (hne : b.rb ≠ fb) (hn : 0 < g.F.length) (hn2 : g.F.length ≤ 1000000) :
    w'.cell? ⟨b.tb, 0, none⟩ = some (.pointer (some ⟨b.rb, 0, none⟩)) ∧ (∀ i, i < 3 → w'.cell? ⟨fb, ft + i, none⟩ = f.cs[i]?) ∧ (∀ j, w'.frozen? ⟨fb, j, none⟩ = false) ∧
    ∀ k, Calls Tryz.prog 106 #[.pointer (some ⟨b.rb, 0, none⟩)] (w'.drewN k) fun e w2 => e = .returned (.pointer (some ⟨fb, ft, none⟩)) ∧ ∃ k', w2 = (w'.drewN k).drewN k' := by
  obtain ⟨_, h1, g2, e1, e2, e3, e4, h2, h3, h4⟩ := h
  have ht2 := ht.at (w' := w') (g' := g2) (h1.block _ ht.hlt (by intro e; exact hne (Option.some.inj e).symm)) e3 e2 e4
  refine ⟨tb_cell h2, ht2.hc, ht2.fz, fun k => ?_⟩
  have := top_mem b p (w'.drewN k) g2 steps seed false err fb c h4 ht2.hv (by rw [e2]; exact hn) (by rw [e2]; exact hn2)
  rw [ht2.hft]
  exact this
set_option maxRecDepth 100000 in
set_option maxHeartbeats 1000000 in
theorem false_flt (b : Bl) (p : Prg) (op xa xb : Int) (name : T) (w : World) (g : Gh) (steps seed err : Int) (hm : Mem b w g) (hR : RB b p w g.sv g.fv steps seed false err) (hn : g.S.length ≤ 1000000) (h : popK 2 (ers g.S) = none) :
    Calls Tryz.prog 137 #[.agg #[iv op, iv xa, iv xb, tv name], .pointer (some ⟨b.tb, 0, none⟩)] w (EffP b p w g (.error 26) steps err) := by
  have H1 := Lib.hid (flt_any b p w g 2 steps seed err hm hR hn h)
  have ct := fun o => tb_cell' hm o
  clear hm hR hn h
  go_enter Tryz.func137, Tryz.ntmps137
  go_wp2_with (go_at_call 138; refine (H1.out _).mono ?_; intro e w1 k1; obtain ⟨rfl, k2⟩ := id k1; have K1 := Lib.hid k1; clear k1 k2)
  exact ⟨rfl, K1.out⟩
set_option maxRecDepth 100000 in
set_option maxHeartbeats 1000000 in
theorem false_no (b : Bl) (p : Prg) (op xa xb : Int) (name : T) (w : World) (g : Gh) (S : List AV) (x : AV) (steps seed err : Int) (hm : Mem b w g) (hR : RB b p w g.sv g.fv steps seed false err) (hn : g.S.length ≤ 1000000) (h : g.S = S ++ [x]) (hk : x.kind = 2) (hz : (x.int == 0) = false) :
    Calls Tryz.prog 137 #[.agg #[iv op, iv xa, iv xb, tv name], .pointer (some ⟨b.tb, 0, none⟩)] w (EffP b p w g (.ok ⟨ers S, g.F.map Fr.er, seed, false⟩) steps err) := by
  have H1 := Lib.hid (one_any b p w g S x 2 steps seed err hm hR hn h hk)
  have ct := fun o => tb_cell' hm o
  have fin : ∀ o w', One b p w g o S steps seed err w' → EffP b p w g (.ok ⟨ers S, g.F.map Fr.er, seed, false⟩) steps err (.returned (.tuple #[])) w' := fun o w' ⟨_, h1, g2, e1, e2, e3, e4, h2, h3, h4⟩ => EffP.mk h2 h3 h4 (by rw [e1]) (by rw [e2])
  have FIN := Lib.hid fin
  have hf := fld1
  clear fin hm hR hn h hk
  unfold AV.v at H1
  generalize x.int = X1 at *
  go_enter Tryz.func137, Tryz.ntmps137
  go_wp2_with (go_at_call 138; refine (H1.out _).mono ?_; rintro e w1 ⟨rfl, k1⟩; have K1 := Lib.hid k1; clear k1)
  exact bodyPost_ret (v := .tuple #[]) (results_none rfl _ _ _) rfl (FIN.out _ _ K1.out)
set_option maxRecDepth 100000 in
set_option maxHeartbeats 1000000 in
theorem false_yes (b : Bl) (p : Prg) (op xa xb : Int) (name : T) (w : World) (g : Gh) (S : List AV) (x : AV) (G : List Fr) (f : Fr) (steps seed err : Int) (hm : Mem b w g) (hR : RB b p w g.sv g.fv steps seed false err) (hn : g.S.length ≤ 1000000) (h : g.S = S ++ [x]) (hk : x.kind = 2) (hz : x.int = 0) (hF : g.F = G ++ [f]) (hn2 : g.F.length ≤ 1000000) :
    Calls Tryz.prog 137 #[.agg #[iv op, iv xa, iv xb, tv name], .pointer (some ⟨b.tb, 0, none⟩)] w (EffP b p w g (.ok ⟨ers S, G.map Fr.er ++ [{ f.er with at_ := xa }], seed, false⟩) steps err) := by
  obtain ⟨fb, c, ft, ht⟩ := hm.isTop hF
  obtain ⟨cur, hcur⟩ := ht.hcur
  have hne := fb_ne hR hcur
  have hl : g.F.length = G.length + 1 := by rw [hF]; simp
  have H1 := Lib.hid (one_any b p w g S x 2 steps seed err hm hR hn h hk)
  have ct := fun o => tb_cell' hm o
  have TOP := Lib.hid (fun (o : Obj) (w' : World) (h : One b p w g o S steps seed err w') => h.top ht hne (by omega) hn2)
  have fin : ∀ o w' k, One b p w g o S steps seed err w' → EffP b p w g (.ok ⟨ers S, G.map Fr.er ++ [{ f.er with at_ := xa }], seed, false⟩) steps err (.returned (.tuple #[])) ((w'.drewN k).setCell ⟨fb, ft + 1, none⟩ (iv xa)) := fun o w' k ⟨_, h1, g2, e1, e2, e3, e4, h2, h3, h4⟩ => by
    have := EffP.jump (w := w) (g := g) (f := f) (a := xa) (h2.drewN k) (h3.trans (Ch.grown (grown_drewN w' k none))) h4 (by rw [e2, hF]) (by rw [e3, e2]; exact ht.hv) hne
    rw [e1, e2, ← ht.hft] at this
    exact this
  have FIN := Lib.hid fin
  have hf := fld1
  clear fin hm hR hn h hk hF hn2 hl ht hcur
  unfold AV.v at H1
  generalize x.int = X1 at *
  subst hz
  go_enter Tryz.func137, Tryz.ntmps137
  go_wp2_with (go_at_call 138; refine (H1.out _).mono ?_; rintro e w1 ⟨rfl, k1⟩; obtain ⟨t1, t2, t3, t4⟩ := TOP.out _ _ k1; have T4 := Lib.hid t4; have c1 := t2 1 (by omega); simp [Fr.cs] at c1; have kb := k1.1; have b1 := Lib.cell_of_heap kb 1; simp at b1; have K1 := Lib.hid k1; clear k1 t4 t2 kb)
  go_region_with (go_at_call 106; refine (T4.out _).mono ?_; rintro e w2 ⟨rfl, k, rfl⟩)
  all_goals go_wp2
  all_goals exact bodyPost_ret (v := .tuple #[]) (results_none rfl _ _ _) rfl (FIN.out _ _ _ K1.out)
end Go.Proofs.YtgboboljgcfggaaGreatDoor
namespace Go.Proofs.YtgboboljgcfggaaGreatDoor
open Go.RowKit
theorem LRd.at8 {B : Nat} {tag : Nat → Tag} {w : World} {A : Option Addr} {c : Nat} {L : List AV} (h : LRd B tag w A c L) {j : Nat} {x : AV} (hj : L[j]? = some x) : ∃ a a1 : Addr, A = some a ∧ a.add (j * 8) = a1 ∧ a1.block < w.heap.size ∧ w.cell? a1 = some (.int .i64 x.kind) ∧ w.cell? ⟨a1.block, a1.off + 1, none⟩ = some (.int .i64 x.int) ∧ w.cell? ⟨a1.block, a1.off + 2, none⟩ = some (.slice x.A x.list.length x.c) ∧
    w.cell? ⟨a1.block, a1.off + 3, none⟩ = some (.int .i64 x.block) ∧ w.cell? ⟨a1.block, a1.off + 4, none⟩ = some (.string ⟨#[]⟩) ∧ w.cell? ⟨a1.block, a1.off + 5, none⟩ = some (.string ⟨#[]⟩) ∧ w.cell? ⟨a1.block, a1.off + 6, none⟩ = some (.slice none 0 0) ∧ w.cell? ⟨a1.block, a1.off + 7, none⟩ = some (.slice none 0 0) := by
  have hlt : j < L.length := by
    rcases Nat.lt_or_ge j L.length with h' | h'
    · exact h'
    · rw [List.getElem?_eq_none h'] at hj; cases hj
  cases hA : A with
  | none => have := h.h0 hA; have := h.hc; omega
  | some a =>
    have hx := fun i v (hi : x.cs[i]? = some v) => (h.hx a hA j x hj i v hi).1
    refine ⟨a, _, rfl, rfl, by rw [add_block]; exact h.hb a hA, by simpa using hx 0 _ rfl, ?_, ?_, ?_, ?_, ?_, ?_, ?_⟩
    · rw [← fld_add _ 1 (by omega), add_add']; exact hx 1 _ rfl
    · rw [← fld_add _ 2 (by omega), add_add']; exact hx 2 _ rfl
    · rw [← fld_add _ 3 (by omega), add_add']; exact hx 3 _ rfl
    · rw [← fld_add _ 4 (by omega), add_add']; exact hx 4 _ rfl
    · rw [← fld_add _ 5 (by omega), add_add']; exact hx 5 _ rfl
    · rw [← fld_add _ 6 (by omega), add_add']; exact hx 6 _ rfl
    · rw [← fld_add _ 7 (by omega), add_add']; exact hx 7 _ rfl
def C8 (w : World) (q : Addr) (x : AV) : Prop := w.cell? q = some (.int .i64 x.kind) ∧ w.cell? ⟨q.block, q.off + 1, none⟩ = some (.int .i64 x.int) ∧ w.cell? ⟨q.block, q.off + 2, none⟩ = some (.slice x.A x.list.length x.c) ∧ w.cell? ⟨q.block, q.off + 3, none⟩ = some (.int .i64 x.block) ∧ w.cell? ⟨q.block, q.off + 4, none⟩ = some (.string ⟨#[]⟩) ∧ w.cell? ⟨q.block, q.off + 5, none⟩ = some (.string ⟨#[]⟩) ∧ w.cell? ⟨q.block, q.off + 6, none⟩ = some (.slice none 0 0) ∧ w.cell? ⟨q.block, q.off + 7, none⟩ = some (.slice none 0 0)
theorem C8.alloc {w : World} {q : Addr} {x : AV} (h : C8 w q x) (hb : q.block < w.heap.size) (o : Obj) : C8 (w.alloc o) q x := by
  obtain ⟨p0, p1, p2, p3, p4, p5, p6, p7⟩ := h
  exact ⟨cell_al p0 hb o, cell_al p1 hb o, cell_al p2 hb o, cell_al p3 hb o, cell_al p4 hb o, cell_al p5 hb o, cell_al p6 hb o, cell_al p7 hb o⟩
section
variable {o : Oper} {a : Act} {w : World}
theorem op_load8 {x : Tmp} {q : Addr} {v : AV} (hd : o.dst.isSome = true) (ho : o.op = .load 56 (.tmp x)) (h : a.eval (.tmp x) = .pointer (some q)) (hc : C8 w q v) : (execOp a.eval o).run Tryz.prog w = .ok (nx o v.v) w := by
  rw [nx_some hd]
  obtain ⟨q0, q1, q2, q3, q4, q5, q6, q7⟩ := hc
  unfold AV.v
  clear hd
  unfold Act.eval at h
  obtain ⟨d, op, t, p, af, g⟩ := o
  simp only at ho
  subst ho
  go_simp
theorem op_indexA {x y : Tmp} {T : TypeId} {sz n c : Nat} {q r : Addr} {k : Nat} {ki : Int} (hr : q.add (k * sz) = r) (hd : o.dst.isSome = true) (hT : (T = 47 ∧ sz = 8) ∨ (T = 48 ∧ sz = 3) ∨ (T = 23 ∧ sz = 3) ∨ (T = 67 ∧ sz = 4)) (ho : o.op = .indexAddr T (.tmp x) (.tmp y)) (h : a.eval (.tmp x) = .slice (some q) n c) (h' : a.eval (.tmp y) = .int .i64 ki) (hki : ki = k) (hk : k < n) : (execOp a.eval o).run Tryz.prog w = .ok (nx o (.pointer (some r))) w := by
  rw [nx_some hd]
  subst hki hr
  unfold Act.eval at h h'
  obtain ⟨d, op, t, ps, af, gu⟩ := o
  simp only at ho
  subst ho
  have t1 : (0 : Int) ≤ k := by omega
  have t2 : (k : Int) < n := by omega
  have t3 : ((k : Int)).toNat = k := by omega
  rcases hT with ⟨rfl, rfl⟩ | ⟨rfl, rfl⟩ | ⟨rfl, rfl⟩ | ⟨rfl, rfl⟩ <;> go_simp
end
set_option maxRecDepth 100000 in
set_option maxHeartbeats 1000000 in
theorem local_flt (b : Bl) (p : Prg) (op xa xb : Int) (name : T) (w : World) (g : Gh) (G : List Fr) (f : Fr) (steps seed err : Int) (hm : Mem b w g) (hR : RB b p w g.sv g.fv steps seed false err) (hF : g.F = G ++ [f]) (hn : g.F.length ≤ 1000000) (h : (f.L.length : Int) ≤ xa) :
    Calls Tryz.prog 130 #[.pointer (some ⟨b.rb, 0, none⟩), .agg #[iv op, iv xa, iv xb, tv name]] w (EffP b p w g (.error 26) steps err) := by
  obtain ⟨fb, c, ft, ht⟩ := hm.isTop hF
  have hl : g.F.length = G.length + 1 := by rw [hF]; simp
  have C1 := fun (o : Obj) (k : Nat) => top_mem b p ((w.alloc o).drewN k) g steps seed false err fb c (hR.alloc o) ht.hv (by omega) hn
  rw [← ht.hft] at C1
  have fin : ∀ o k, EffP b p w g (.error 26) steps err (.panicked (stopC 26)) ((w.alloc o).drewN k) := fun o k => EffP.flt (w1 := w) (grown_weak (World.grownBy.refl w none) _) ⟨rfl, (grown_alloc w o _).trans (grown_drewN _ k _), _, _, _, hR.alloc o⟩
  have q2 := fun o => cell_al (ht.hc 2 (by omega)) ht.hlt o
  have H1 := Lib.hid C1
  have FIN := Lib.hid fin
  have FA := Lib.hid (fun W => fault_any 26 W)
  clear C1 fin hm hR hF hn hl ht
  go_enter Tryz.func130, Tryz.ntmps130
  go_wp2_with (go_at_call 106; refine (H1.out _ 0).mono ?_; rintro e w1 ⟨rfl, k, rfl⟩)
  go_quiet (fail)
  go_wp2_with (go_at_call 105; refine (FA.out _).mono ?_; rintro e w1 ⟨rfl, rfl⟩)
  exact ⟨rfl, FIN.out _ _⟩
set_option maxRecDepth 100000 in
set_option maxHeartbeats 1000000 in
theorem local_ok (b : Bl) (p : Prg) (op xa xb : Int) (name : T) (w : World) (g : Gh) (G : List Fr) (f : Fr) (v : AV) (j : Nat) (steps seed err : Int) (hm : Mem b w g) (hR : RB b p w g.sv g.fv steps seed false err) (hF : g.F = G ++ [f]) (hn : g.F.length ≤ 1000000) (hn2 : g.S.length ≤ 1000000) (h : f.L[j]? = some v) (hj : xa = j) :
    Calls Tryz.prog 130 #[.pointer (some ⟨b.rb, 0, none⟩), .agg #[iv op, iv xa, iv xb, tv name]] w (EffP b p w g (.ok ⟨ers g.S ++ [v.er], g.F.map Fr.er, seed, false⟩) steps err) := by
  subst hj
  obtain ⟨fb, c, ft, ht⟩ := hm.isTop hF
  have hl : g.F.length = G.length + 1 := by rw [hF]; simp
  have hlt : j < f.L.length := by
    rcases Nat.lt_or_ge j f.L.length with h' | h'
    · exact h'
    · rw [List.getElem?_eq_none h'] at h; cases h
  have C1 := fun (o : Obj) (k : Nat) => top_mem b p ((w.alloc o).drewN k) g steps seed false err fb c (hR.alloc o) ht.hv (by omega) hn
  rw [← ht.hft] at C1
  have hok := (hm.top hF).l
  have C2 : ∀ o k, Calls Tryz.prog 128 #[.pointer (some ⟨b.rb, 0, none⟩), v.v] ((w.alloc o).drewN k) (EffP b p w g (.ok ⟨ers g.S ++ [v.er], g.F.map Fr.er, seed, false⟩) steps err) := fun o k => by
    have m2 := (hm.alloc o).drewN k
    refine (push_any b p v ((w.alloc o).drewN k) g steps seed false err m2 (hR.alloc o) ((m2.top hF).l.hr v (List.mem_of_getElem? h)) hn2).mono fun e w' hp => ?_
    exact EffP.push hp (Ch.grown ((grown_alloc w o _).trans (grown_drewN _ k _))) rfl
  obtain ⟨a, a1, eA, ea, hab, p0, p1, p2, p3, p4, p5, p6, p7⟩ := hok.at8 h
  have q2 := fun o => cell_al (ht.hc 2 (by omega)) ht.hlt o
  simp [eA] at q2
  have Z8 := fun o => Lib.hid (C8.alloc (w := w) (q := a1) (x := v) ⟨p0, p1, p2, p3, p4, p5, p6, p7⟩ hab o)
  have t1 : (j : Int) < (f.L.length : Int) := by omega
  have t2 : (0 : Int) ≤ (j : Int) := by omega
  have t3 : ((j : Int)).toNat = j := by omega
  have t4 : decide ((f.L.length : Int) ≤ (j : Int)) = false := by simp; omega
  have H1 := Lib.hid C1
  have H2 := Lib.hid C2
  clear C1 C2 hm hR hF hn hl ht hok p0 p1 p2 p3 p4 p5 p6 p7 h hn2 eA
  generalize f.L.length = N at *
  generalize v.er = VE at *
  go_enter Tryz.func130, Tryz.ntmps130
  go_wp2_with (go_at_call 106; refine (H1.out _ 0).mono ?_; rintro e w1 ⟨rfl, k, rfl⟩)
  go_quiet (fail)
  go_wp2
  refine wp_phase_tail [false, false, false, false, false, false, false, false, false] [[]] [Value.pointer (some ⟨b.rb, 0, none⟩), Value.pointer (some ⟨fb, ft, none⟩), Value.pointer (some ⟨fb, ft, none⟩), Value.pointer (some ⟨fb, ft + 2, none⟩), .slice (some a) N f.c, Value.pointer (some ⟨w.heap.size, 1, none⟩), iv j, .pointer (some a1), v.v] [_] 0 ⟨#[Value.pointer (some ⟨b.rb, 0, none⟩), Value.agg #[iv op, iv ↑j, iv xb, tv name], undef, Value.pointer (some ⟨w.heap.size, 0, none⟩), Value.pointer (some ⟨fb, ft, none⟩), Value.pointer (some ⟨b.rb, 0, none⟩), Value.pointer (some ⟨fb, ft, none⟩), Value.pointer (some ⟨w.heap.size, 1, none⟩), iv ↑j, Value.pointer (some ⟨fb, ft, none⟩), Value.pointer (some ⟨fb, ft, none⟩), Value.pointer (some ⟨fb, ft + 2, none⟩), Value.slice (some a) N f.c, Value.int IntKind.i64 ↑N, Value.bool (decide (N ≤ j)) , undef, Value.pointer (some ⟨b.rb, 0, none⟩), Value.pointer (some ⟨fb, ft, none⟩), Value.pointer (some ⟨fb, ft, none⟩), Value.pointer (some ⟨fb, ft + 2, none⟩), .slice (some a) N f.c, Value.pointer (some ⟨w.heap.size, 1, none⟩), iv j, .pointer (some a1), v.v, undef], []⟩ 9 (by decide) (by kernel_rfl) (by kernel_rfl) (by kernel_rfl) (by kernel_rfl) rfl (by kernel_rfl) (by kernel_rfl) (fun _ => by kernel_rfl) (fun _ => by kernel_rfl) rfl rfl ⟨?_, ?_, ?_, ?_, ?_, ?_, ?_, ?_, ?_, trivial⟩ rfl (by kernel_rfl) ?_
  · intro kk aa hk E
    have h0 : aa.eval (.tmp 0) = Value.pointer (some ⟨b.rb, 0, none⟩) := (E 0 (by kernel_rfl)).trans (by kernel_rfl)
    exact obl_pure (by kernel_rfl) rfl hk fun w => op_move rfl rfl h0
  · intro kk aa hk E
    have h4 : aa.eval (.tmp 4) = Value.pointer (some ⟨fb, ft, none⟩) := (E 4 (by kernel_rfl)).trans (by kernel_rfl)
    exact obl_pure (by kernel_rfl) rfl hk fun w => op_move rfl rfl h4
  · intro kk aa hk E
    have h17 : aa.eval (.tmp 17) = Value.pointer (some ⟨fb, ft, none⟩) := (E 17 (by kernel_rfl)).trans (by kernel_rfl)
    exact obl_pure (by kernel_rfl) rfl hk fun w => op_nil rfl rfl h17
  · intro kk aa hk E
    have h18 : aa.eval (.tmp 18) = Value.pointer (some ⟨fb, ft, none⟩) := (E 18 (by kernel_rfl)).trans (by kernel_rfl)
    exact obl_pure (by kernel_rfl) rfl hk fun w => op_fa (k := 2) rfl rfl rfl h18
  · intro kk aa hk E
    have h19 : aa.eval (.tmp 19) = Value.pointer (some ⟨fb, ft + 2, none⟩) := (E 19 (by kernel_rfl)).trans (by kernel_rfl)
    refine obl_read (ks := [0]) (by kernel_rfl) (by kernel_rfl) rfl hk ⟨?_, trivial⟩
    · intro w' hw; cases hw; exact op_load1M rfl (by decide) rfl h19 (q2 _)
  · intro kk aa hk E
    have h3 : aa.eval (.tmp 3) = Value.pointer (some ⟨w.heap.size, 0, none⟩) := (E 3 (by kernel_rfl)).trans (by kernel_rfl)
    exact obl_pure (by kernel_rfl) rfl hk fun w => op_fa (k := 1) rfl rfl rfl h3
  · intro kk aa hk E
    have h21 : aa.eval (.tmp 21) = Value.pointer (some ⟨w.heap.size, 1, none⟩) := (E 21 (by kernel_rfl)).trans (by kernel_rfl)
    refine obl_read (ks := [0]) (by kernel_rfl) (by kernel_rfl) rfl hk ⟨?_, trivial⟩
    · intro w' hw; cases hw; exact op_load1M rfl (by decide) rfl h21 (World.cell?_alloc_at _ _ _ _ rfl)
  · intro kk aa hk E
    have h20 : aa.eval (.tmp 20) = .slice (some a) N f.c := (E 20 (by kernel_rfl)).trans (by kernel_rfl)
    have h22 : aa.eval (.tmp 22) = iv j := (E 22 (by kernel_rfl)).trans (by kernel_rfl)
    exact obl_pure (by kernel_rfl) rfl hk fun w => op_indexA (sz := 8) (k := j) ea rfl (by decide) rfl h20 h22 rfl (by omega)
  · intro kk aa hk E
    have h23 : aa.eval (.tmp 23) = .pointer (some a1) := (E 23 (by kernel_rfl)).trans (by kernel_rfl)
    refine obl_read (ks := [0]) (by kernel_rfl) (by kernel_rfl) rfl hk ⟨?_, trivial⟩
    · intro w' hw; cases hw; exact op_load8 rfl rfl h23 (Z8 _).out
  go_wp2_with (go_at_call 128; refine (H2.out _ (k + nq + 1)).mono ?_; intro e w1 k1; obtain ⟨rfl, k2⟩ := id k1; have K1 := Lib.hid k1; clear k1 k2)
  exact bodyPost_ret (v := .tuple #[]) (results_none rfl _ _ _) rfl K1.out
end Go.Proofs.YtgboboljgcfggaaGreatDoor
