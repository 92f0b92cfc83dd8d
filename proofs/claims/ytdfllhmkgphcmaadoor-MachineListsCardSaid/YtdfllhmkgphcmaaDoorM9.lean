/- The walks and the words of the family machine, part 9: Stp, Awk, Awl, Gra, Opn. -/
import Derived.Test.YtdfllhmkgphcmaaDoorM8
import Derived.Test.YtdfllhmkgphcmaaDoorTie
import Derived.Test.YtdfllhmkgphcmaaDoorCards
import Derived.ProofKit
import Derived.OpenShut
import Derived.LaidMore
import Derived.Lay
import Derived.SevenTiedAt
import Derived.Stop.Joined
import Derived.Deep.Slices
import Derived.ChangeSlices
import Derived.Lib.SmallJoins
namespace Go.Proofs.YtdfllhmkgphcmaaDoor

/-- A machine in a call, above others. -/
def stM (bs : List Blk) (S : List MV) (G : List MF) (f : MF) (k : Int) (seed : Int) : MM := ⟨bs, S, G ++ [f], k, seed, false, 0⟩
theorem stM_go (bs : List Blk) (S : List MV) (G : List MF) (f : MF) (k seed : Int) : ended (stM bs S G f k seed) = false := rfl
theorem stM_ok {bs : List Blk} {S : List MV} {G : List MF} {f : MF} {k seed : Int} {b : Blk} {x : Ins} {s : MS} (hb : bs[f.block.toNat]? = some b) (hx : b.ins[f.at_.toNat]? = some x) (he : exec bs x S G { f with at_ := f.at_ + 1 } seed = .ok s) :
    stepM (stM bs S G f k seed) = ⟨bs, s.S, s.F, k + 1, s.seed, s.done, 0⟩ := by
  unfold stepM stM
  simp only [unsn_snoc, hb, hx, he]
theorem stM_err {bs : List Blk} {S : List MV} {G : List MF} {f : MF} {k seed e : Int} {b : Blk} {x : Ins} (hb : bs[f.block.toNat]? = some b) (hx : b.ins[f.at_.toNat]? = some x) (he : exec bs x S G { f with at_ := f.at_ + 1 } seed = .error e) :
    stepM (stM bs S G f k seed) = ⟨bs, S, G ++ [f], k + 1, seed, false, e⟩ := by
  unfold stepM stM
  simp only [unsn_snoc, hb, hx, he]
theorem runE_on {n : Nat} {m m' : MM} (h : stepM m = m') (he : ended m' = false) : runE (n + 1) m = runE n m' := by
  rw [runE, h, if_neg (by rw [he]; simp)]
theorem runE_end {n : Nat} {m m' : MM} (h : stepM m = m') (he : ended m' = true) : runE (n + 1) m = (m', 0) := by
  rw [runE, h, if_pos he]

theorem exec_op (bs : List Blk) (a c : Int) (nm : T) (S : List MV) (u v : Int) (G : List MF) (f : MF) (seed : Int) : exec bs ⟨10, a, c, nm⟩ (S ++ [vInt u] ++ [vInt v]) G f seed =
    if nm = [61] then .ok ⟨S ++ [vBool (u == v)], G ++ [f], seed, false⟩
    else if nm = [60] then .ok ⟨S ++ [vBool (decide (u < v))], G ++ [f], seed, false⟩
    else if opInt nm u v < -999999999 ∨ 999999999 < opInt nm u v then .error 5
    else .ok ⟨S ++ [vInt (opInt nm u v)], G ++ [f], seed, false⟩ := by
  have e1 : popK 1 (S ++ [vInt u] ++ [vInt v]) = some (S ++ [vInt u], vInt v) := by rw [popK_snoc]; rfl
  have e2 : popK 1 (S ++ [vInt u]) = some (S, vInt u) := by rw [popK_snoc]; rfl
  have e3 : ∀ z, (vInt z).int = z := fun _ => rfl
  simp only [exec, e1, e2, e3, Int.reduceEq, if_false, if_true]
section
variable {bs : List Blk} {S : List MV} {G : List MF} {k seed : Int} {B at_ : Int} {L : List MV} {b : Blk} {a c : Int} {nm : T} {n : Nat}
/-- A step that leaves the call standing. -/
theorem run_ok {S' : List MV} {a' : Int} {L' : List MV} {x : Ins} (hb : bs[B.toNat]? = some b) (hx : b.ins[at_.toNat]? = some x) (he : exec bs x S G ⟨B, at_ + 1, L⟩ seed = .ok ⟨S', G ++ [⟨B, a', L'⟩], seed, false⟩) :
    runE (n + 1) (stM bs S G ⟨B, at_, L⟩ k seed) = runE n (stM bs S' G ⟨B, a', L'⟩ (k + 1) seed) :=
  runE_on (stM_ok hb hx (s := ⟨S', G ++ [⟨B, a', L'⟩], seed, false⟩) he) rfl
theorem run_int (hb : bs[B.toNat]? = some b) (hx : b.ins[at_.toNat]? = some ⟨1, a, c, nm⟩) : runE (n + 1) (stM bs S G ⟨B, at_, L⟩ k seed) = runE n (stM bs (S ++ [vInt a]) G ⟨B, at_ + 1, L⟩ (k + 1) seed) :=
  run_ok hb hx (by simp [exec])
theorem run_nil (hb : bs[B.toNat]? = some b) (hx : b.ins[at_.toNat]? = some ⟨11, a, c, nm⟩) : runE (n + 1) (stM bs S G ⟨B, at_, L⟩ k seed) = runE n (stM bs (S ++ [vList []]) G ⟨B, at_ + 1, L⟩ (k + 1) seed) :=
  run_ok hb hx (by simp [exec])
theorem run_cons {v : MV} {l : List MV} (hb : bs[B.toNat]? = some b) (hx : b.ins[at_.toNat]? = some ⟨12, a, c, nm⟩) : runE (n + 1) (stM bs (S ++ [v] ++ [vList l]) G ⟨B, at_, L⟩ k seed) = runE n (stM bs (S ++ [vList (v :: l)]) G ⟨B, at_ + 1, L⟩ (k + 1) seed) :=
  run_ok hb hx (by simp only [exec, popK_snoc, unsn_snoc]; simp [vList, MV.kind, MV.list])
theorem run_case {v : MV} {l : List MV} (hb : bs[B.toNat]? = some b) (hx : b.ins[at_.toNat]? = some ⟨13, a, c, nm⟩) : runE (n + 1) (stM bs (S ++ [vList (v :: l)]) G ⟨B, at_, L⟩ k seed) = runE n (stM bs S G ⟨B, at_ + 1, L ++ [v, vList l]⟩ (k + 1) seed) :=
  run_ok hb hx (by simp only [exec, popK_snoc]; simp [vList, MV.kind, MV.list])
theorem run_case0 (hb : bs[B.toNat]? = some b) (hx : b.ins[at_.toNat]? = some ⟨13, a, c, nm⟩) : runE (n + 1) (stM bs (S ++ [vList []]) G ⟨B, at_, L⟩ k seed) = runE n (stM bs S G ⟨B, a, L⟩ (k + 1) seed) :=
  run_ok hb hx (by simp only [exec, popK_snoc]; simp [vList, MV.kind, MV.list])
theorem run_local {v : MV} (hb : bs[B.toNat]? = some b) (hx : b.ins[at_.toNat]? = some ⟨3, a, c, nm⟩) (hL : L[a.toNat]? = some v) : runE (n + 1) (stM bs S G ⟨B, at_, L⟩ k seed) = runE n (stM bs (S ++ [v]) G ⟨B, at_ + 1, L⟩ (k + 1) seed) :=
  run_ok hb hx (by simp [exec, hL])
theorem run_bind {v : MV} (hb : bs[B.toNat]? = some b) (hx : b.ins[at_.toNat]? = some ⟨14, a, c, nm⟩) : runE (n + 1) (stM bs (S ++ [v]) G ⟨B, at_, L⟩ k seed) = runE n (stM bs S G ⟨B, at_ + 1, L ++ [v]⟩ (k + 1) seed) :=
  run_ok hb hx (by simp [exec])
theorem run_clos (hb : bs[B.toNat]? = some b) (hx : b.ins[at_.toNat]? = some ⟨5, a, c, nm⟩) (hc : bs[a.toNat]?.map Blk.cap = some (L.length : Int)) : runE (n + 1) (stM bs S G ⟨B, at_, L⟩ k seed) = runE n (stM bs (S ++ [vFun a L]) G ⟨B, at_ + 1, L⟩ (k + 1) seed) :=
  run_ok hb hx (by simp only [exec, hc]; simp)
theorem run_drop (hb : bs[B.toNat]? = some b) (hx : b.ins[at_.toNat]? = some ⟨15, a, c, nm⟩) (hc : a ≤ (L.length : Int)) : runE (n + 1) (stM bs S G ⟨B, at_, L⟩ k seed) = runE n (stM bs S G ⟨B, at_ + 1, L.take (L.length - a.toNat)⟩ (k + 1) seed) :=
  run_ok hb hx (by simp only [exec]; simp; omega)
theorem run_call {v : MV} {B2 : Int} {l : List MV} (hb : bs[B.toNat]? = some b) (hx : b.ins[at_.toNat]? = some ⟨6, a, c, nm⟩) : runE (n + 1) (stM bs (S ++ [vFun B2 l] ++ [v]) G ⟨B, at_, L⟩ k seed) = runE n (stM bs S (G ++ [⟨B, at_ + 1, L⟩]) ⟨B2, 0, l ++ [v]⟩ (k + 1) seed) :=
  runE_on (stM_ok hb hx (s := ⟨S, G ++ [⟨B, at_ + 1, L⟩] ++ [⟨B2, 0, l ++ [v]⟩], seed, false⟩) (by simp only [exec, popK_snoc, unsn_snoc]; simp [vFun, MV.kind, MV.list, MV.block])) rfl
theorem run_ret {G' : List MF} {f' : MF} (hb : bs[B.toNat]? = some b) (hx : b.ins[at_.toNat]? = some ⟨7, a, c, nm⟩) (hS : S ≠ []) : runE (n + 1) (stM bs S (G' ++ [f']) ⟨B, at_, L⟩ k seed) = runE n (stM bs S G' f' (k + 1) seed) :=
  runE_on (stM_ok hb hx (s := ⟨S, G' ++ [f'], seed, false⟩) (by simp [exec, hS])) rfl
theorem run_done (hb : bs[B.toNat]? = some b) (hx : b.ins[at_.toNat]? = some ⟨7, a, c, nm⟩) (hS : S ≠ []) : runE (n + 1) (stM bs S [] ⟨B, at_, L⟩ k seed) = (⟨bs, S, [], k + 1, seed, true, 0⟩, 0) :=
  runE_end (stM_ok hb hx (s := ⟨S, [], seed, true⟩) (by simp [exec, hS])) rfl
theorem run_op {u v : Int} {r : MV} (hb : bs[B.toNat]? = some b) (hx : b.ins[at_.toNat]? = some ⟨10, a, c, nm⟩) (he : exec bs ⟨10, a, c, nm⟩ (S ++ [vInt u] ++ [vInt v]) G ⟨B, at_ + 1, L⟩ seed = .ok ⟨S ++ [r], G ++ [⟨B, at_ + 1, L⟩], seed, false⟩) : runE (n + 1) (stM bs (S ++ [vInt u] ++ [vInt v]) G ⟨B, at_, L⟩ k seed) = runE n (stM bs (S ++ [r]) G ⟨B, at_ + 1, L⟩ (k + 1) seed) :=
  run_ok hb hx he
theorem run_fault {e : Int} {x : Ins} (hb : bs[B.toNat]? = some b) (hx : b.ins[at_.toNat]? = some x) (he : exec bs x S G ⟨B, at_ + 1, L⟩ seed = .error e) (h0 : e ≠ 0) : runE (n + 1) (stM bs S G ⟨B, at_, L⟩ k seed) = (⟨bs, S, G ++ [⟨B, at_, L⟩], k + 1, seed, false, e⟩, 0) :=
  runE_end (stM_err hb hx he) (by simp [ended, h0])
end
end Go.Proofs.YtdfllhmkgphcmaaDoor
namespace Go.Proofs.YtdfllhmkgphcmaaDoor
open Go.RowKit

theorem rd_cells {α : Type} {n : Nat} {cs : α → List Value} {w : World} {A : Nat} {L : List α} {t : TypeId} (hn : ∀ x, (cs x).length = n) (h : w.heap[A]? = some (.cells (L.flatMap cs).toArray t (0, 0))) : RD n cs w (some ⟨A, 0, none⟩) L := by
  refine .inr ⟨_, rfl, heap_lt h, fun j x hj i v hi => ?_⟩
  have hi3 : i < n := by
    rcases Nat.lt_or_ge i n with h' | h'
    · exact h'
    · rw [List.getElem?_eq_none (by rw [hn]; exact h')] at hi; cases hi
  have ha : ((⟨A, 0, none⟩ : Addr).add (j * n + i)) = ⟨A, j * n + i, none⟩ := by
    by_cases e0 : j * n + i = 0
    · rw [e0]; rfl
    · rw [fld_add _ _ e0]; simp
  rw [ha, Lib.cell_of_heap h, List.getElem?_toArray, flat_at cs n hn hi3 _ j hj]
  exact hi
theorem Ins.cs_len (x : Ins) : x.cs.length = 4 := rfl
theorem plP_len {A : Option Addr} {c : Nat} {L : List Ins} {B1 B2 : Nat} (hL : L.length ≤ 20000) (hn : ∀ x ∈ L, x.name.length ≤ 100) : LenP (plP A c L B1 B2) ∧ ∀ b ∈ (plP A c L B1 B2).bs, b.ins.length ≤ 9223372036854775807 := by
  refine ⟨⟨by simp [plP], by simp [plP], fun b hb => ?_, fun b hb x hx => ?_, fun s hs => ?_⟩, fun b hb => ?_⟩
  · simp only [plP, List.mem_singleton] at hb; subst hb; show L.length ≤ _; omega
  · simp only [plP, List.mem_singleton] at hb; subst hb; have := hn x hx; omega
  · simp only [plP, List.mem_singleton] at hs; subst hs; simp
  · simp only [plP, List.mem_singleton] at hb; subst hb; show L.length ≤ _; omega
/-- A program with one block that ends with a value. -/
theorem one_ok (A : Option Addr) (c : Nat) (L : List Ins) (B1 B2 : Nat) (w : World) (m : MM) (T : List MV) (v : MV) (hL : L.length ≤ 20000) (hn : ∀ x ∈ L, x.name.length ≤ 100) (hc : ∀ i ∈ L, ckI [⟨0, false, A, c, L⟩] L.length i.op i.a i.b i.name = 0) (hp : (plP A c L B1 B2).Rd w)
    (hrun : runE 400 (begM [⟨0, false, A, c, L⟩] 0 0) = (m, 0)) (hd : m.done = true) (hS : m.S = T ++ [v]) (hm : m.S.length ≤ 1000000) :
    Calls Tryd.prog 20 #[(plP A c L B1 B2).v] w fun e w' => w.grownBy w' none ∧ ∃ (M : AM) (S' : List AV) (x : AV), e = .returned (.tuple #[M.v, x.v, .bool true]) ∧ M.p = plP A c L B1 B2 ∧ M.er = m ∧ M.S = S' ++ [x] ∧ x.er = v ∧ M.Rd w' := by
  obtain ⟨h1, h2⟩ := plP_len (A := A) (c := c) (B1 := B1) (B2 := B2) hL hn
  exact result_ok (plP A c L B1 B2) ⟨[109], 1, 0⟩ [] w m T v rfl (errP_one hL hc) hp h1 h2 hrun hd hS hm
theorem one_bad (A : Option Addr) (c : Nat) (L : List Ins) (B1 B2 : Nat) (w : World) (m : MM) (hL : L.length ≤ 20000) (hn : ∀ x ∈ L, x.name.length ≤ 100) (hc : ∀ i ∈ L, ckI [⟨0, false, A, c, L⟩] L.length i.op i.a i.b i.name = 0) (hp : (plP A c L B1 B2).Rd w)
    (hrun : runE 400 (begM [⟨0, false, A, c, L⟩] 0 0) = (m, 0)) (hd : m.done = false) (h0 : m.err ≠ 0) :
    Calls Tryd.prog 20 #[(plP A c L B1 B2).v] w fun e w' => w.grownBy w' none ∧ ∃ (M : AM), e = .returned (.tuple #[M.v, zV, .bool false]) ∧ M.p = plP A c L B1 B2 ∧ M.er = m ∧ M.Rd w' := by
  obtain ⟨h1, h2⟩ := plP_len (A := A) (c := c) (B1 := B1) (B2 := B2) hL hn
  exact result_bad (plP A c L B1 B2) ⟨[109], 1, 0⟩ [] w m rfl (errP_one hL hc) hp h1 h2 hrun hd h0

/-- The two programs of awake. -/
def awL1 : List Ins := [⟨1, 2, 0, []⟩, ⟨1, 3, 0, []⟩, ⟨10, 0, 0, [43]⟩, ⟨7, 0, 0, []⟩]
def awL2 : List Ins := [⟨1, 2, 0, []⟩, ⟨11, 0, 0, []⟩, ⟨10, 0, 0, [43]⟩, ⟨7, 0, 0, []⟩]
theorem aw_ck1 (bs : List Blk) : ∀ i ∈ awL1, ckI bs awL1.length i.op i.a i.b i.name = 0 := by
  intro i hi
  simp only [awL1, List.mem_cons, List.not_mem_nil, or_false] at hi
  rcases hi with rfl | rfl | rfl | rfl <;> rfl
theorem aw_ck2 (bs : List Blk) : ∀ i ∈ awL2, ckI bs awL2.length i.op i.a i.b i.name = 0 := by
  intro i hi
  simp only [awL2, List.mem_cons, List.not_mem_nil, or_false] at hi
  rcases hi with rfl | rfl | rfl | rfl <;> rfl
theorem begM_st (bs : List Blk) (seed : Int) : begM bs 0 seed = stM bs [] [] ⟨0, 0, []⟩ 0 seed := rfl
theorem aw_run1 (A : Option Addr) (c : Nat) : runE 400 (begM [⟨0, false, A, c, awL1⟩] 0 0) = (⟨[⟨0, false, A, c, awL1⟩], [vInt 5], [], 4, 0, true, 0⟩, 0) := by
  have hb : ([⟨0, false, A, c, awL1⟩] : List Blk)[(0 : Int).toNat]? = some ⟨0, false, A, c, awL1⟩ := rfl
  rw [begM_st, run_int hb (a := 2) (c := 0) (nm := []) rfl, run_int hb (a := 3) (c := 0) (nm := []) rfl]
  rw [show ([] : List MV) ++ [vInt 2] ++ [vInt 3] = [] ++ [vInt 2] ++ [vInt 3] from rfl, run_op (S := []) hb (a := 0) (c := 0) (nm := [43]) (r := vInt 5) rfl (by rw [exec_op]; simp [opInt, w64, Go.RowKit.wrap64]), run_done hb (a := 0) (c := 0) (nm := []) rfl (by simp)]
  rfl
theorem aw_run2 (A : Option Addr) (c : Nat) : runE 400 (begM [⟨0, false, A, c, awL2⟩] 0 0) = (⟨[⟨0, false, A, c, awL2⟩], [vInt 2, vList []], [⟨0, 2, []⟩], 3, 0, false, 26⟩, 0) := by
  have hb : ([⟨0, false, A, c, awL2⟩] : List Blk)[(0 : Int).toNat]? = some ⟨0, false, A, c, awL2⟩ := rfl
  rw [begM_st, run_int hb (a := 2) (c := 0) (nm := []) rfl, run_nil hb (a := 0) (c := 0) (nm := []) rfl]
  rw [run_fault (e := 26) hb (x := ⟨10, 0, 0, [43]⟩) rfl (by rfl) (by decide)]
  rfl
end Go.Proofs.YtdfllhmkgphcmaaDoor
namespace Go.Proofs.YtdfllhmkgphcmaaDoor
open Go.RowKit

theorem al_at (W : World) (o : Obj) {A : Nat} (h : A = W.heap.size) : (W.alloc o).heap[A]? = some o := by rw [h]; exact al_new W o
theorem er_vInt {x : AV} {n : Int} (h : x.er = vInt n) : x.kind = 1 ∧ x.int = n := by
  cases x
  simp only [AV.er, vInt, MV.mk.injEq] at h
  exact ⟨h.1, h.2.1⟩
set_option maxRecDepth 100000 in
set_option maxHeartbeats 4000000 in
theorem awake_any (w : World) : Calls Tryd.prog 14 #[] w fun e w' => e = .returned (.bool true) ∧ w.grownBy w' none := by
  have P1 := Lib.hid (fun W A (h : RD 4 Ins.cs W (some ⟨A, 0, none⟩) awL1) => (plainL_any (some ⟨A, 0, none⟩) 4 awL1 W h).mono fun e w1 (h1 : W.grownBy w1 none ∧ ∃ B1 B2, e = .returned (plP (some ⟨A, 0, none⟩) 4 awL1 B1 B2).v ∧ (plP (some ⟨A, 0, none⟩) 4 awL1 B1 B2).Rd w1) => h1)
  have P2 := Lib.hid (fun W A (h : RD 4 Ins.cs W (some ⟨A, 0, none⟩) awL2) => (plainL_any (some ⟨A, 0, none⟩) 4 awL2 W h).mono fun e w1 (h1 : W.grownBy w1 none ∧ ∃ B1 B2, e = .returned (plP (some ⟨A, 0, none⟩) 4 awL2 B1 B2).v ∧ (plP (some ⟨A, 0, none⟩) 4 awL2 B1 B2).Rd w1) => h1)
  go_enter Tryd.func14, Tryd.ntmps14
  go_wp2_with (first | (go_at_call 21; refine (P1.out _ _ (rd_cells Ins.cs_len (by exact al_new w _))).mono ?_; rintro e w1 ⟨g1, B1, B2, rfl, hp⟩; have G1 := Lib.hid ((World.grownBy_alloc w _ none).trans g1); have R1 := Lib.hid (one_ok _ _ _ B1 B2 w1 _ [] (vInt 5) (by decide) (by decide) (aw_ck1 _) hp (aw_run1 _ _) rfl rfl (by simp)); clear P1 hp g1) | (go_at_call 20; refine R1.out.mono ?_; rintro e w2 ⟨g2, M, S', x, rfl, -, hm, -, hx, -⟩; have G2 := Lib.hid (G1.out.trans g2); have s4 : M.steps = 4 := congrArg MM.steps hm; obtain ⟨k1, k2⟩ := er_vInt hx; unfold AM.v AV.v; rw [s4, k1, k2]; clear R1 G1 g2 hm hx s4 k1 k2))
  refine (P2.out _ _ (rd_cells Ins.cs_len (by exact al_at _ _ (by simp)))).mono ?_
  rintro e w3 ⟨g3, B1', B2', rfl, hp⟩
  have k5 := (g3.block w2.heap.size (by simp; omega) (by simp)).trans ((Below.heap_alloc _ _ _ (by simp; omega)).trans ((Below.heap_alloc _ _ _ (by simp)).trans (al_new w2 _)))
  have k6 := (g3.block (w2.heap.size + 1) (by simp) (by simp)).trans ((Below.heap_alloc _ _ _ (by simp)).trans (al_at _ _ (by simp)))
  have K5 := Lib.hid k5
  have K6 := Lib.hid k6
  have G3 := Lib.hid (((G2.out.trans (World.grownBy_alloc w2 _ none)).trans (World.grownBy_alloc _ _ none)).trans ((World.grownBy_alloc _ _ none).trans g3))
  have R2 := Lib.hid (one_bad _ _ _ B1' B2' w3 _ (by decide) (by decide) (aw_ck2 _) hp (aw_run2 _ _) rfl (by simp))
  clear P2 hp g3 G2 k5 k6
  go_wp2_with (first | (go_at_call 20; refine R2.out.mono ?_; rintro e w4 ⟨g4, X, rfl, -, hm, -⟩; have G4 := Lib.hid (G3.out.trans g4); have s3 : X.steps = 3 := congrArg MM.steps hm; have s26 : X.err = 26 := congrArg MM.err hm; have L5 := Lib.hid ((g4.block _ (heap_lt K5.out) (by simp)).trans K5.out); have L6 := Lib.hid ((g4.block _ (heap_lt K6.out) (by simp)).trans K6.out); have l5 := heap_lt L5.out; have l6 := heap_lt L6.out; have q4 := fun o o' => cell_al (cell_al (cells8 L5.out).1.2.2.2.2.1 l5 o) (show w2.heap.size < _ by simp; omega) o'; have x0 := fun o o' => cell_al (cell_al (cells8 L6.out).1.1 l6 o) (show w2.heap.size + 1 < _ by simp; omega) o'; have x1 := fun o o' => cell_al (cell_al (cells8 L6.out).1.2.1 l6 o) (show w2.heap.size + 1 < _ by simp; omega) o'; unfold AM.v; rw [s3, s26]; clear R2 G3 g4 hm s3 s26 K5 K6 l5 l6))
  clear L5 L6 q4 x0 x1
  go_ret
  exact ⟨rfl, (G4.out.trans (World.grownBy_alloc _ _ none)).trans (World.grownBy_alloc _ _ none)⟩
end Go.Proofs.YtdfllhmkgphcmaaDoor
namespace Go.Proofs.YtdfllhmkgphcmaaDoor
open Go.RowKit

/-- A program within the bounds. -/
structure Small (p : Prg) : Prop where
  n : ∀ b ∈ p.bs, ∀ x ∈ b.ins, x.name.length ≤ 100
  k : ∀ s ∈ p.ss, s.pack.length ≤ 200
  c : cntW p.bs ≤ 150
  b : p.bs.length ≤ 30
  s : p.ss.length ≤ 10

def GrP (p : Prg) (e : Ending) : Prop := ∃ g, e = .returned (.bool g) ∧ (g = false ↔ Small p)
theorem gr_no {p : Prg} (h : ¬ Small p) : GrP p (.returned (.bool true)) := ⟨true, rfl, ⟨fun e => Bool.noConfusion e, fun s => absurd s h⟩⟩

set_option maxRecDepth 100000 in
set_option maxHeartbeats 8000000 in
theorem great_any (p : Prg) (w : World) (hp : p.Rd w) (hb : p.bs.length ≤ 9223372036854775807) (hs : p.ss.length ≤ 9223372036854775807) (hi : ∀ b ∈ p.bs, b.ins.length ≤ 9223372036854775807) :
    Calls Tryd.prog 11 #[p.v] w fun e w' => GrP p e ∧ Below w.heap.size w w' := by
  unfold Prg.v
  obtain ⟨W, hW⟩ : ∃ W, W = w.alloc (.cells #[.slice p.bA p.bs.length p.bc, .slice p.sA p.ss.length p.sc] 25) := ⟨_, rfl⟩
  have hB0 : Below w.heap.size w W := by rw [hW]; exact (Below.refl _ _).alloc (Nat.le_refl _) _
  have hbx : W.heap[w.heap.size]? = some (.cells #[.slice p.bA p.bs.length p.bc, .slice p.sA p.ss.length p.sc] 25 (0, 0)) := by rw [hW]; exact al_new w _
  have y0 : W.cell? ⟨w.heap.size, 0, none⟩ = some (.slice p.bA p.bs.length p.bc) := by rw [Lib.cell_of_heap hbx]; rfl
  have y1 : W.cell? ⟨w.heap.size, 1, none⟩ = some (.slice p.sA p.ss.length p.sc) := by rw [Lib.cell_of_heap hbx]; rfl
  have HP := Lib.hid (hp.below hB0)
  have HB0 := Lib.hid hB0
  have HW := Lib.hid hW
  have HI := Lib.hid hi
  clear hW hB0 hbx hp hi
  go_enter Tryd.func11, Tryd.ntmps11
  go_wp2
  rw [← HW.out]
  go_loopw [3, 4, 5] (fun c i _ wr => ∃ k : Nat, k ≤ p.bs.length ∧ i = .int .i64 k ∧ c = .int .i64 (cntW (p.bs.take k)) ∧ wr = W ∧ Hid (∀ b ∈ p.bs.take k, ∀ x ∈ b.ins, x.name.length ≤ 100)) (fun _ i _ _ => p.bs.length - (intOf i).toNat)
  case atStart => exact ⟨0, Nat.zero_le _, rfl, rfl, rfl, Lib.hid (by simp)⟩
  case round =>
    obtain ⟨k, hk, rfl, rfl, rfl, HN⟩ := hrel
    by_cases hlt : k < p.bs.length
    · obtain ⟨a, a1, hA, ha, hab, c0, c1, c2⟩ := HP.out.b.blk hlt
      have HCS := Lib.hid (cntW_succ hlt)
      obtain ⟨blk, hblk⟩ : ∃ blk, blk = p.bs[k] := ⟨_, rfl⟩
      rw [← hblk] at c0 c1 c2
      have hbm : blk ∈ p.bs := by rw [hblk]; exact List.getElem_mem hlt
      have hil := HI.out blk hbm
      have HBI := Lib.hid (HP.out.i blk hbm)
      have HBK := Lib.hid hblk
      rw [hA] at y0
      rw [← hblk] at HCS
      clear hA hbm hblk
      go_wp2
      go_loopw [5] (fun i wr' => ∃ j : Nat, j ≤ blk.ins.length ∧ i = .int .i64 j ∧ wr' = wr ∧ Hid (∀ x ∈ blk.ins.take j, x.name.length ≤ 100)) (fun i _ => blk.ins.length - (intOf i).toNat)
      case atStart => exact ⟨0, Nat.zero_le _, rfl, rfl, Lib.hid (by simp)⟩
      case round =>
        obtain ⟨j, hj, rfl, rfl, HJ⟩ := hrel
        by_cases hjl : j < blk.ins.length
        · obtain ⟨b', b1, hbA, hb1, hbb, i0, i1, i2, i3⟩ := HBI.out.ins hjl
          obtain ⟨x, hx⟩ : ∃ x, x = blk.ins[j] := ⟨_, rfl⟩
          rw [← hx] at i0 i1 i2 i3
          rw [hbA] at c2
          have HX := Lib.hid hx
          clear hbA hx i0 i1 i2
          by_cases hn : 100 < x.name.length
          · have z : (100 : Int) < (x.name.length : Int) := by omega
            go_wp2
            go_ret
            exact ⟨gr_no fun h => absurd (h.n blk (by rw [HBK.out]; exact List.getElem_mem hlt) x (by rw [HX.out]; exact List.getElem_mem hjl)) (by omega), HB0.out⟩
          · have z : ¬ (100 : Int) < (x.name.length : Int) := by omega
            go_wp2
            refine ⟨⟨j + 1, by omega, by simp, trivial, Lib.hid fun q hq => ?_⟩, by simp [intOf]; omega⟩
            rw [List.take_succ_eq_append_getElem hjl, ← HX.out] at hq
            rcases List.mem_append.1 hq with h | h
            · exact HJ.out q h
            · rw [List.mem_singleton.1 h]; omega
        · obtain rfl : j = blk.ins.length := by omega
          go_wp2
          refine ⟨⟨k + 1, by omega, by simp, by rw [HCS.out], trivial, Lib.hid fun q hq => ?_⟩, by simp [intOf]; omega⟩
          rw [List.take_succ_eq_append_getElem hlt, ← HBK.out] at hq
          rcases List.mem_append.1 hq with h | h
          · exact HN.out q h
          · rw [List.mem_singleton.1 h]; have h2 := HJ.out; rw [List.take_length] at h2; exact h2
    · obtain rfl : k = p.bs.length := by omega
      have h0 := HN.out
      rw [List.take_length] at h0
      have HN := Lib.hid h0
      rw [List.take_length]
      clear h0
      go_wp2
      go_loopw [6] (fun i wr' => ∃ k : Nat, k ≤ p.ss.length ∧ i = .int .i64 k ∧ wr' = wr ∧ Hid (∀ s ∈ p.ss.take k, s.pack.length ≤ 200)) (fun i _ => p.ss.length - (intOf i).toNat)
      case atStart => exact ⟨0, Nat.zero_le _, rfl, rfl, Lib.hid (by simp)⟩
      case round =>
        obtain ⟨k, hk, rfl, rfl, HK⟩ := hrel
        by_cases hlt : k < p.ss.length
        · obtain ⟨a, a1, hA, ha, hab, c0, c1, c2⟩ := HP.out.s.stt hlt
          obtain ⟨s, hs'⟩ : ∃ s, s = p.ss[k] := ⟨_, rfl⟩
          rw [← hs'] at c0 c1 c2
          rw [hA] at y1
          have HX := Lib.hid hs'
          clear hA hs'
          by_cases hn : 200 < s.pack.length
          · have z : (200 : Int) < (s.pack.length : Int) := by omega
            go_wp2
            go_ret
            exact ⟨gr_no fun h => absurd (h.k s (by rw [HX.out]; exact List.getElem_mem hlt)) (by omega), HB0.out⟩
          · have z : ¬ (200 : Int) < (s.pack.length : Int) := by omega
            go_wp2
            refine ⟨⟨k + 1, by omega, by simp, trivial, Lib.hid fun q hq => ?_⟩, by simp [intOf]; omega⟩
            rw [List.take_succ_eq_append_getElem hlt, ← HX.out] at hq
            rcases List.mem_append.1 hq with h | h
            · exact HK.out q h
            · rw [List.mem_singleton.1 h]; omega
        · obtain rfl : k = p.ss.length := by omega
          have h0 := HK.out
          rw [List.take_length] at h0
          have HK := Lib.hid h0
          clear h0
          by_cases h1 : 150 < cntW p.bs
          · go_wp2
            go_ret
            exact ⟨gr_no fun h => absurd h.c (by omega), HB0.out⟩
          · by_cases h2 : 30 < p.bs.length
            · have z : (30 : Int) < (p.bs.length : Int) := by omega
              go_wp2
              go_ret
              exact ⟨gr_no fun h => absurd h.b (by omega), HB0.out⟩
            · have z : ¬ (30 : Int) < (p.bs.length : Int) := by omega
              by_cases h3 : 10 < p.ss.length
              · have z2 : (10 : Int) < (p.ss.length : Int) := by omega
                go_wp2
                go_ret
                exact ⟨gr_no fun h => absurd h.s (by omega), HB0.out⟩
              · have z2 : ¬ (10 : Int) < (p.ss.length : Int) := by omega
                go_wp2
                go_ret
                exact ⟨⟨false, rfl, ⟨fun _ => ⟨HN.out, HK.out, by omega, by omega, by omega⟩, fun _ => rfl⟩⟩, HB0.out⟩
end Go.Proofs.YtdfllhmkgphcmaaDoor
namespace Go.Proofs.YtdfllhmkgphcmaaDoor
open Go.ChangeShapes Go.WideShapes Go.ChangeAt Go.RowKit Go.Joins Go.Deep

theorem own : ownKnob Tryd.prog.godebug = none := by kernel_rfl
theorem laidOut : laidOutB Tryd.prog = true := by kernel_rfl

section
variable {H : Type} {enc : TypeId × Value → H} {P : Program} {W : World} {base : Nat} {spare : Nat → Bool} {held : Bool}
/-- A slice of records that came in. -/
theorem open_recs {α : Type} [Inhabited α] {t e : TypeId} {n : Nat} {cs : α → List Value} {ok : α → Prop} (ht : P.underlying t = some (.slice e)) (hn : P.cellsOf e = n) (h0 : 0 < n)
    (hr : ∀ (k : Nat) (vs : List Value) (y : DataW H × List MemPlace), DataW.trod enc P W base spare held k e vs = some y → vs.length = n → ∃ x : α, vs = cs x ∧ ok x)
    {fuel : Nat} {v : Value} {x : DataW H × List MemPlace} (h : DataW.trod enc P W base spare held fuel t [v] = some x) :
    ∃ (A : Option Addr) (c : Nat) (L : List α), v = .slice A L.length c ∧ L.length ≤ 9223372036854775807 ∧ RD n cs W A L ∧ ∀ x ∈ L, ok x := by
  rcases open_slice ht h with ⟨e1, _⟩ | ⟨a, len, cap, m, k, D, Pl, e1, hb, hl, hm, hmm, _, hx⟩
  · have e1 : v = .slice none 0 0 := by simpa using e1
    exact ⟨none, 0, [], e1, by simp, .inl rfl, by simp⟩
  · have e1 : v = .slice (some a) len cap := by simpa using e1
    have hlm : len ≤ m := by rw [hmm]; split <;> omega
    have hm' : cap ≤ 9223372036854775807 := by unfold maxLen at hm; omega
    rw [hn] at hx
    obtain ⟨X, hX⟩ := choose_lt (α := α) (n := m) (p := fun i x => (∀ j v, (cs x)[j]? = some v → W.cell? (a.add (i * n + j)) = some v) ∧ (cs x).length = n ∧ ok x) (fun i hi => by
      obtain ⟨cs', h1, h2⟩ := hx i hi
      obtain ⟨_, hlen, hcell⟩ := World.cells?_some h1
      obtain ⟨x, rfl, hok⟩ := hr k cs' _ h2 hlen
      refine ⟨x, fun j v hj => ?_, hlen, hok⟩
      have hjn : j < n := by
        rcases Nat.lt_or_ge j n with h' | h'
        · exact h'
        · rw [List.getElem?_eq_none (by omega)] at hj; cases hj
      rw [← add_add', hcell j hjn]
      exact hj)
    refine ⟨some a, cap, (List.range len).map X, by simpa using e1, by simp; omega, ?_, fun x hx' => ?_⟩
    · rcases Nat.eq_zero_or_pos len with h9 | h9
      · left; subst h9; simp
      · refine .inr ⟨a, rfl, ?_, fun j y hj i v hi => ?_⟩
        · obtain ⟨h1, h2, _⟩ := hX 0 (by omega)
          have h3 := h1 0 _ (List.getElem?_eq_getElem (by omega))
          have := World.block_lt_of_cell? W _ h3
          rwa [add_block] at this
        · rw [List.getElem?_map] at hj
          by_cases hjl : j < len
          · rw [List.getElem?_range hjl] at hj
            simp only [Option.map_some, Option.some.injEq] at hj
            subst hj
            exact (hX j (by omega)).1 i v hi
          · rw [List.getElem?_eq_none (by simp; omega)] at hj; simp at hj
    · obtain ⟨i, hi, rfl⟩ := List.mem_map.1 hx'
      rw [List.mem_range] at hi
      exact (hX i (by omega)).2.2
end
section
variable {H : Type} {enc : TypeId × Value → H} {W : World} {base : Nat} {spare : Nat → Bool} {held : Bool}
instance : Inhabited Ins := ⟨⟨0, 0, 0, []⟩⟩
instance : Inhabited Stt := ⟨⟨[], 0, 0⟩⟩
instance : Inhabited Blk := ⟨⟨0, false, none, 0, []⟩⟩
theorem list3 {α : Type} {l : List α} (h : l.length = 3) : ∃ a b c, l = [a, b, c] := by
  match l, h with
  | [a, b, c], _ => exact ⟨a, b, c, rfl⟩
theorem list4 {α : Type} {l : List α} (h : l.length = 4) : ∃ a b c d, l = [a, b, c, d] := by
  match l, h with
  | [a, b, c, d], _ => exact ⟨a, b, c, d, rfl⟩
set_option maxRecDepth 100000 in
theorem read_ins (k : Nat) (vs : List Value) (y : DataW H × List MemPlace) (h : DataW.trod enc Tryd.prog W base spare held k 45 vs = some y) (hl : vs.length = 4) : ∃ x : Ins, vs = x.cs ∧ x.name.length ≤ 9223372036854775807 := by
  obtain ⟨y0, y1, y2, y3, n, _, _, h0, h1, h2, h3⟩ := trod_struct4 Tryd.underlying45 h
  obtain ⟨a, b, c, d, rfl⟩ := list4 hl
  have c3 : Tryd.prog.cellsOf 3 = 1 := by kernel_rfl
  have c9 : Tryd.prog.cellsOf 9 = 1 := by kernel_rfl
  simp only [c3, c9, List.drop_zero, List.drop_succ_cons, List.take_succ_cons, List.take_zero] at h0 h1 h2 h3
  obtain ⟨n0, e0, _⟩ := DataW.trod_int Tryd.underlying3 h0
  obtain ⟨n1, e1, _⟩ := DataW.trod_int Tryd.underlying3 h1
  obtain ⟨n2, e2, _⟩ := DataW.trod_int Tryd.underlying3 h2
  obtain ⟨s, e3, _, hs⟩ := DataW.trod_string Tryd.underlying9 h3
  simp only [List.cons.injEq, and_true] at e0 e1 e2 e3
  subst e0; subst e1; subst e2; subst e3
  refine ⟨⟨n0, n1, n2, s.data.toList⟩, rfl, ?_⟩
  have : s.data.toList.length = s.size := Array.length_toList
  show s.data.toList.length ≤ _
  rw [this]
  unfold maxLen at hs
  omega
set_option maxRecDepth 100000 in
theorem read_stt (k : Nat) (vs : List Value) (y : DataW H × List MemPlace) (h : DataW.trod enc Tryd.prog W base spare held k 69 vs = some y) (hl : vs.length = 3) : ∃ x : Stt, vs = x.cs ∧ x.pack.length ≤ 9223372036854775807 := by
  obtain ⟨y0, y1, n, _, _, h0, h1⟩ := trod_struct2 Tryd.underlying69 h
  obtain ⟨a, b, c, rfl⟩ := list3 hl
  have c3 : Tryd.prog.cellsOf 3 = 1 := by kernel_rfl
  have c9 : Tryd.prog.cellsOf 9 = 1 := by kernel_rfl
  have c31 : Tryd.prog.cellsOf 31 = 2 := by kernel_rfl
  simp only [c3, c31, List.drop_zero, List.drop_succ_cons, List.take_succ_cons, List.take_zero] at h0 h1
  obtain ⟨z0, z1, n', _, _, g0, g1⟩ := trod_struct2 Tryd.underlying31 h0
  simp only [c3, c9, List.drop_zero, List.drop_succ_cons, List.take_succ_cons, List.take_zero] at g0 g1
  obtain ⟨s, e0, _, hs⟩ := DataW.trod_string Tryd.underlying9 g0
  obtain ⟨n1, e1, _⟩ := DataW.trod_int Tryd.underlying3 g1
  obtain ⟨n2, e2, _⟩ := DataW.trod_int Tryd.underlying3 h1
  simp only [List.cons.injEq, and_true] at e0 e1 e2
  subst e0; subst e1; subst e2
  refine ⟨⟨s.data.toList, n1, n2⟩, rfl, ?_⟩
  have : s.data.toList.length = s.size := Array.length_toList
  show s.data.toList.length ≤ _
  rw [this]
  unfold maxLen at hs
  omega
set_option maxRecDepth 100000 in
theorem read_blk (k : Nat) (vs : List Value) (y : DataW H × List MemPlace) (h : DataW.trod enc Tryd.prog W base spare held k 43 vs = some y) (hl : vs.length = 3) : ∃ x : Blk, vs = x.cs ∧ (RD 4 Ins.cs W x.A x.ins ∧ x.ins.length ≤ 9223372036854775807 ∧ ∀ i ∈ x.ins, i.name.length ≤ 9223372036854775807) := by
  obtain ⟨y0, y1, y2, n, _, _, h0, h1, h2⟩ := trod_struct3 Tryd.underlying43 h
  obtain ⟨a, b, c, rfl⟩ := list3 hl
  have c3 : Tryd.prog.cellsOf 3 = 1 := by kernel_rfl
  have c4 : Tryd.prog.cellsOf 4 = 1 := by kernel_rfl
  have c41 : Tryd.prog.cellsOf 41 = 1 := by kernel_rfl
  simp only [c3, c4, c41, List.drop_zero, List.drop_succ_cons, List.take_succ_cons, List.take_zero] at h0 h1 h2
  obtain ⟨n0, e0, _⟩ := DataW.trod_int Tryd.underlying3 h0
  obtain ⟨q, e1, _⟩ := DataW.trod_bool Tryd.underlying4 h1
  obtain ⟨A, cc, L, e2, hl2, hrd, hok⟩ := open_recs (ok := fun x : Ins => x.name.length ≤ 9223372036854775807) Tryd.underlying41 (show Tryd.prog.cellsOf 45 = 4 by kernel_rfl) (by decide) (fun k vs y h hl => read_ins k vs y h hl) h2
  simp only [List.cons.injEq, and_true] at e0 e1
  subst e0; subst e1; subst e2
  exact ⟨⟨n0, q, A, cc, L⟩, rfl, hrd, hl2, hok⟩
set_option maxRecDepth 100000 in
/-- A program that came in. -/
theorem open_prg {r : Reach} {b0 : Nat} {v : Value} {d : DataW H} {ps : List MemPlace} (hv : Value.okWide Tryd.prog W r b0 25 v) (h : DataW.Trod enc Tryd.prog W base spare held 25 v d ps) : ∃ p : Prg, v = p.v ∧ p.Rd W ∧ LenP p := by
  obtain ⟨v0, v1, y0, y1, n, rfl, _, _, h0, h1⟩ := open_agg2 Tryd.underlying25 (by kernel_rfl) (by kernel_rfl) hv h
  obtain ⟨A, c, L, rfl, hl, hrd, hok⟩ := open_recs (ok := fun x : Blk => RD 4 Ins.cs W x.A x.ins ∧ x.ins.length ≤ 9223372036854775807 ∧ ∀ i ∈ x.ins, i.name.length ≤ 9223372036854775807) Tryd.underlying22 (show Tryd.prog.cellsOf 43 = 3 by kernel_rfl) (by decide) (fun k vs y h hl => read_blk k vs y h hl) h0
  obtain ⟨A', c', L', rfl, hl', hrd', hok'⟩ := open_recs (ok := fun x : Stt => x.pack.length ≤ 9223372036854775807) Tryd.underlying23 (show Tryd.prog.cellsOf 69 = 3 by kernel_rfl) (by decide) (fun k vs y h hl => read_stt k vs y h hl) h1
  exact ⟨⟨A, c, L, A', c', L'⟩, rfl, ⟨hrd, fun x hx => (hok x hx).1, hrd'⟩, ⟨hl, hl', fun b hb => (hok b hb).2.1, fun b hb => (hok b hb).2.2, hok'⟩⟩
end
end Go.Proofs.YtdfllhmkgphcmaaDoor
