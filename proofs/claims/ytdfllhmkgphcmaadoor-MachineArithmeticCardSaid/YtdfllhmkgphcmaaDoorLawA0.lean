/- The law MachineArithmetic: the runs. -/
import Derived.Test.YtdfllhmkgphcmaaDoorM9
namespace Go.Proofs.YtdfllhmkgphcmaaDoor
open Go.RowKit

def arL (a b : Int) (nm : T) : List Ins := [⟨1, a, 0, []⟩, ⟨1, b, 0, []⟩, ⟨10, 0, 0, nm⟩, ⟨7, 0, 0, []⟩]
theorem ar_ck (bs : List Blk) {a b : Int} {nm : T} (ha : -999999999 ≤ a ∧ a ≤ 999999999) (hb : -999999999 ≤ b ∧ b ≤ 999999999) (hn : nmOk nm = true) : ∀ i ∈ arL a b nm, ckI bs (arL a b nm).length i.op i.a i.b i.name = 0 := by
  intro i hi
  simp only [arL, List.mem_cons, List.not_mem_nil, or_false] at hi
  rcases hi with rfl | rfl | rfl | rfl
  · simp [ckI, ckB, fK, fA, fB, fN, inR, ha.1, ha.2]
  · simp [ckI, ckB, fK, fA, fB, fN, inR, hb.1, hb.2]
  · simp [ckI, ckB, fK, fA, fB, fN, inR, hn]
  · rfl
theorem ar_nl {a b : Int} {nm : T} (h : nm.length ≤ 100) : ∀ x ∈ arL a b nm, x.name.length ≤ 100 := by
  intro i hi
  simp only [arL, List.mem_cons, List.not_mem_nil, or_false] at hi
  rcases hi with rfl | rfl | rfl | rfl <;> first | exact h | exact Nat.zero_le _
theorem ar_run (A : Option Addr) (c : Nat) (a b : Int) (nm : T) (r : MV) (f : MF) (he : ∀ bs : List Blk, exec bs ⟨10, 0, 0, nm⟩ ([] ++ [vInt a] ++ [vInt b]) [] ⟨0, 3, []⟩ 0 = .ok ⟨[] ++ [r], [] ++ [⟨0, 3, []⟩], 0, false⟩) (_hf : f = f) : runE 400 (begM [⟨0, false, A, c, arL a b nm⟩] 0 0) = (⟨[⟨0, false, A, c, arL a b nm⟩], [r], [], 4, 0, true, 0⟩, 0) := by
  have hb : ([⟨0, false, A, c, arL a b nm⟩] : List Blk)[(0 : Int).toNat]? = some ⟨0, false, A, c, arL a b nm⟩ := rfl
  rw [begM_st, run_int hb (a := a) (c := 0) (nm := []) rfl, run_int hb (a := b) (c := 0) (nm := []) rfl]
  rw [show ([] : List MV) ++ [vInt a] ++ [vInt b] = [] ++ [vInt a] ++ [vInt b] from rfl, run_op (S := []) hb (a := 0) (c := 0) (nm := nm) (r := r) rfl (he _), run_done hb (a := 0) (c := 0) (nm := []) rfl (by simp)]
  rfl
theorem ar_bad (A : Option Addr) (c : Nat) (a b : Int) (nm : T) (he : ∀ bs : List Blk, exec bs ⟨10, 0, 0, nm⟩ ([] ++ [vInt a] ++ [vInt b]) [] ⟨0, 3, []⟩ 0 = .error 5) : runE 400 (begM [⟨0, false, A, c, arL a b nm⟩] 0 0) = (⟨[⟨0, false, A, c, arL a b nm⟩], [vInt a, vInt b], [⟨0, 2, []⟩], 3, 0, false, 5⟩, 0) := by
  have hb : ([⟨0, false, A, c, arL a b nm⟩] : List Blk)[(0 : Int).toNat]? = some ⟨0, false, A, c, arL a b nm⟩ := rfl
  rw [begM_st, run_int hb (a := a) (c := 0) (nm := []) rfl, run_int hb (a := b) (c := 0) (nm := []) rfl]
  rw [run_fault (e := 5) hb (x := ⟨10, 0, 0, nm⟩) rfl (he _) (by decide)]
  rfl
/-- What a machine and a value are, of a program that ended. -/
theorem ar_ok (W : World) (A : Nat) (a b : Int) (nm : T) (kd v : Int) (r : MV) (hr : r = .mk kd v 0 []) (ha : -999999999 ≤ a ∧ a ≤ 999999999) (hb : -999999999 ≤ b ∧ b ≤ 999999999) (hn : nmOk nm = true) (hn1 : nm.length ≤ 100)
    (he : ∀ bs : List Blk, exec bs ⟨10, 0, 0, nm⟩ ([] ++ [vInt a] ++ [vInt b]) [] ⟨0, 3, []⟩ 0 = .ok ⟨[] ++ [r], [] ++ [⟨0, 3, []⟩], 0, false⟩) (B1 B2 : Nat) (hp : (plP (some ⟨A, 0, none⟩) 4 (arL a b nm) B1 B2).Rd W) :
    Calls Tryd.prog 20 #[(plP (some ⟨A, 0, none⟩) 4 (arL a b nm) B1 B2).v] W fun e w' => W.grownBy w' none ∧ ∃ (M : AM) (x : AV), e = .returned (.tuple #[M.v, x.v, .bool true]) ∧ M.steps = 4 ∧ x.kind = kd ∧ x.int = v := by
  refine (one_ok _ _ _ B1 B2 W _ [] r (by simp [arL]) (ar_nl hn1) (ar_ck _ ha hb hn) hp (ar_run _ _ a b nm r ⟨0, 0, []⟩ he rfl) rfl rfl (by simp)).mono ?_
  rintro e w' ⟨g, M, S', x, rfl, -, hm, -, hx, -⟩
  have s4 : M.steps = 4 := congrArg MM.steps hm
  rw [hr] at hx
  cases x
  simp only [AV.er, MV.mk.injEq] at hx
  exact ⟨g, M, _, rfl, s4, hx.1, hx.2.1⟩
theorem ar_no (W : World) (A : Nat) (a b : Int) (nm : T) (ha : -999999999 ≤ a ∧ a ≤ 999999999) (hb : -999999999 ≤ b ∧ b ≤ 999999999) (hn : nmOk nm = true) (hn1 : nm.length ≤ 100)
    (he : ∀ bs : List Blk, exec bs ⟨10, 0, 0, nm⟩ ([] ++ [vInt a] ++ [vInt b]) [] ⟨0, 3, []⟩ 0 = .error 5) (B1 B2 : Nat) (hp : (plP (some ⟨A, 0, none⟩) 4 (arL a b nm) B1 B2).Rd W) :
    Calls Tryd.prog 20 #[(plP (some ⟨A, 0, none⟩) 4 (arL a b nm) B1 B2).v] W fun e w' => W.grownBy w' none ∧ ∃ (M : AM), e = .returned (.tuple #[M.v, zV, .bool false]) ∧ M.steps = 3 ∧ M.err = 5 := by
  refine (one_bad _ _ _ B1 B2 W _ (by simp [arL]) (ar_nl hn1) (ar_ck _ ha hb hn) hp (ar_bad _ _ a b nm he) rfl (by simp)).mono ?_
  rintro e w' ⟨g, M, rfl, -, hm, -⟩
  exact ⟨g, M, rfl, congrArg MM.steps hm, congrArg MM.err hm⟩
theorem ar_plain (W : World) (A : Nat) (a b : Int) (nm : T) {t : TypeId} (h : W.heap[A]? = some (.cells #[iv 1, iv a, iv 0, eS, iv 1, iv b, iv 0, eS, iv 10, iv 0, iv 0, tv nm, iv 7, iv 0, iv 0, eS] t (0, 0))) :
    Calls Tryd.prog 21 #[.slice (some ⟨A, 0, none⟩) 4 4] W fun e w' => W.grownBy w' none ∧ ∃ B1 B2, e = .returned (plP (some ⟨A, 0, none⟩) 4 (arL a b nm) B1 B2).v ∧ (plP (some ⟨A, 0, none⟩) 4 (arL a b nm) B1 B2).Rd w' :=
  plainL_any (some ⟨A, 0, none⟩) 4 (arL a b nm) W (rd_cells Ins.cs_len h)
end Go.Proofs.YtdfllhmkgphcmaaDoor
