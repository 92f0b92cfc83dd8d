/- Starts and their runs. -/
import Derived.Test.YtdfllhmkgphcmaaDoorM9
namespace Go.Proofs.YtdfllhmkgphcmaaDoor
open Go.RowKit

theorem begin_none_ (p : Prg) (s : Int) (V : World) (hp : p.Rd V) (hl : LenP p) (h : p.ss = [] ∨ errP p ≠ 0) : Calls Tryd.prog 18 #[p.v, .int .u64 s] V fun e V' => e = .returned (.tuple #[.agg #[nilS, nilS, nilS, nilS, iv 0, .int .u64 0, .bool false, iv 0], .bool false]) ∧ V.grownBy V' none :=
  (start_any p s V hp hl).mono fun e V' h1 => by
    obtain ⟨g, ⟨_, rfl⟩ | ⟨s', ss', B, h2, h3, _⟩⟩ := h1
    · exact ⟨rfl, g⟩
    · rcases h with h | h
      · rw [h2] at h; cases h
      · exact absurd h3 h
theorem begin_at_ (p : Prg) (s : Int) (st : Stt) (ss : List Stt) (V : World) (hp : p.Rd V) (hl : LenP p) (hs : p.ss = st :: ss) (he : errP p = 0) : Calls Tryd.prog 18 #[p.v, .int .u64 s] V fun e V' => V.grownBy V' none ∧ ∃ B, e = .returned (.tuple #[(bAM p st.block s B).v, .bool true]) ∧ V.heap.size ≤ B ∧ V'.heap[B]? = some (.cells #[iv st.block, iv 0, nilS] 78 (0, 0)) :=
  (start_any p s V hp hl).mono fun e V' h1 => by
    obtain ⟨g, ⟨h2 | h2, rfl⟩ | ⟨s', ss', B, h2, h3, h4, h5, h6⟩⟩ := h1
    · rw [hs] at h2; cases h2
    · exact absurd he h2
    · rw [hs] at h2
      cases h2
      exact ⟨g, B, h4, h5, h6⟩
theorem begin_run_ (p : Prg) (s : Int) (st : Stt) (ss : List Stt) (w V : World) (B n : Nat) (hl : LenP p) (hs : p.ss = st :: ss) (he : errP p = 0) (hn : n ≤ 1000) (hx : (bAM p st.block s B).RdX w (tgB B) V) : Calls Tryd.prog 19 #[(bAM p st.block s B).v, iv n] V (RunP w (tgB B) (bAM p st.block s B) V (runE n (begM p.bs st.block s))) :=
  run_go w (tgB B) (bAM p st.block s B) V n 1 hx rfl (bAM_MI he hs hl.i s B) (by omega) (by omega) (by simp [bAM])
end Go.Proofs.YtdfllhmkgphcmaaDoor
