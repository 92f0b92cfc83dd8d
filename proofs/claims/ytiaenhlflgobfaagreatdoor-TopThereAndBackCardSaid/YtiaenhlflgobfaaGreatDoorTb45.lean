/- Walks and words: LaB, Bld, Wrt, Dig, WIn, EnA, EnW. -/
import Derived.Test.YtiaenhlflgobfaaGreatDoorTb2
import Derived.Test.YtiaenhlflgobfaaGreatDoorTb10
import Derived.Test.YtiaenhlflgobfaaGreatDoorTb44
import Derived.Shelf.Strings.Builder1
import Derived.Shelf.Strings.BuilderF
import Derived.Shelf.Strings.BuilderK
import Derived.Test.YtiaenhlflgobfaaGreatDoorProg
import Derived.Lib.OthersKept
import Derived.Lib.FrozenHead2
import Derived.RangeFuncNested
import Derived.RangeFuncBound
import Derived.RangeFuncCalls
import Derived.RangeFuncLeaves
import Derived.Shelf.Abstract
import Derived.Shelf.RegionOpen
import Derived.WalkKit
import Derived.OwnWalkIn
import Derived.TacticsInMore
import Derived.LoopNIn
import Derived.LoopIn
import Derived.Lib.Builder
namespace Go.Proofs
open Go.Shelf
def Tryz.lays169_ren : Go.Shelf.Ren:=⟨fun | 169 => 46 | n => n,fun | 70 => 95 | 9 => 9 | 0 => 0 | 72 => 98 | 37 => 96 | 127 => 166 | 3 => 3 | 5 => 5 | n => n,fun | n => n⟩
theorem Tryz.lays169 : Go.Proofs.Lays.n169 Tryz.prog Tryz.lays169_ren:={
 mixed:=by kernel_rfl
 f169:=Tryz.func46.trans (congrArg some (by kernel_rfl))
 t0:=Tryz.underlying0
 a0:=Tryz.isAgg0
 z0:=Tryz.sizeOf0
 v0:=Tryz.zeroValue0
 t3:=Tryz.underlying3
 a3:=Tryz.isAgg3
 z3:=Tryz.sizeOf3
 v3:=Tryz.zeroValue3
 t9:=Tryz.underlying9
 a9:=Tryz.isAgg9
 z9:=Tryz.sizeOf9
 v9:=Tryz.zeroValue9
 t37:=Tryz.underlying96
 a37:=Tryz.isAgg96
 z37:=Tryz.sizeOf96
 v37:=Tryz.zeroValue96
 t70:=Tryz.underlying95
 a70:=Tryz.isAgg95
 z70:=Tryz.sizeOf95
 v70:=Tryz.zeroValue95
 t72:=Tryz.underlying98
 a72:=Tryz.isAgg98
 z72:=Tryz.sizeOf98
 v72:=Tryz.zeroValue98
 t127:=Tryz.underlying166
 a127:=Tryz.isAgg166
 z127:=Tryz.sizeOf166
 v127:=Tryz.zeroValue166 }
theorem Tryz.Builder_Extra_169 : Builder.Extra Tryz.prog Tryz.lays169_ren:={
 sizeBuilder:=by kernel_rfl
 liesBuilder:=by kernel_rfl
 t5:=Tryz.underlying5
 a5:=Tryz.isAgg5
 z5:=Tryz.sizeOf5
 v5:=Tryz.zeroValue5
 infoByte:=by kernel_rfl
 cellsByte:=by kernel_rfl
 sizeByte:=by kernel_rfl
 neB5:=by decide }
open Go.RowKit in
theorem Tryz.Builder_String_any_k (B b : Nat) (l : List UInt8) (w : World) (h : Lib.IsBuilderF 98 5 B b (Lib.byteCells l) w) (hBw : B ≤ w.heap.size) :
 Calls Tryz.prog 46 #[.pointer (some ⟨b,0,none⟩)] w fun e w' => e = .returned (.string ⟨l.toArray⟩) ∧ (Lib.IsBuilderF 98 5 B b (Lib.byteCells l) w' ∧ Below B w w' ∧ Lib.OthersKept 5 (some b) w w'):=Any.Builder_String_any_k Tryz.lays169 Tryz.Builder_Extra_169 B b l w h hBw
end Go.Proofs
namespace Go.Proofs.YtiaenhlflgobfaaGreatDoor
open Go.RowKit
theorem Qjr : (Tryz.prog.info? 98).map (·.size) = some 2:=by kernel_rfl
theorem liesB : liesAt Tryz.prog Tryz.prog.depth 98 (2 / Tryz.prog.cellsOf 98) 0 98 1 = true:=by kernel_rfl
theorem Qii : (Tryz.prog.info? 5).map (fun i => (i.zero,i.size,i.bytes)) = some (some (.int .u8 0),1,1):=by kernel_rfl
set_option maxHeartbeats 1000000 in
set_option maxRecDepth 100000 in
theorem Qd1 (b : Nat) (w : World) (h0 : w.cell? ⟨b,0,none⟩ = some (.pointer (some ⟨b,0,none⟩))) :
 Calls Tryz.prog 143 #[.pointer (some ⟨b,0,none⟩)] w fun e w' => e = .returned (.tuple #[]) ∧ w' = w:=by
 obtain ⟨j,hj,_⟩:=Option.map_eq_some_iff.1 Qjr
 have hne:=Lib.run_neq_ptr_same w ⟨b,0,none⟩ Tryz.underlying95 hj
 go_enter Tryz.func143,Tryz.ntmps143
 go_wp2
 try rw [hne]
 try go_wp2
 go_end0
 exact ⟨rfl,rfl⟩
set_option maxHeartbeats 1000000 in
set_option maxRecDepth 100000 in
theorem Qc6 (b : Nat) (w : World) (h0 : w.cell? ⟨b,0,none⟩ = some (.pointer none)) (hsh : w.shape? b = some (98,2)) (hfz : w.frozen? ⟨b,0,none⟩ = false) :
 Calls Tryz.prog 143 #[.pointer (some ⟨b,0,none⟩)] w fun e w' => e = .returned (.tuple #[]) ∧ w' = w.setCell ⟨b,0,none⟩ (.pointer (some ⟨b,0,none⟩)):=by
 obtain ⟨j,hj,hjs⟩:=Option.map_eq_some_iff.1 Qjr
 have hne:=Lib.run_neq_ptr_same (w.setCell ⟨b,0,none⟩ (.pointer (some ⟨b,0,none⟩))) ⟨b,0,none⟩ Tryz.underlying95 hj
 go_enter Tryz.func143,Tryz.ntmps143
 go_wp2
 rw [Lib.run_to_unsafe w ⟨b,0,none⟩ Tryz.underlying95 Tryz.underlying267 hj (by rw [hjs];decide) hsh (Nat.zero_lt_succ 1)]
 simp only [Result.andThen]
 rw [Oper.upon_value]
 go_wp2
 rw [run_callFunc_extern Tryz.func191 (by kernel_rfl) (by kernel_rfl) (by kernel_rfl) (e:=Extern.AbiNoEscape.same) (by kernel_rfl)]
 rw [Lib.run_noEscape]
 simp only [Result.andThen]
 rw [Oper.upon_value]
 go_wp2
 rw [Lib.run_from_unsafe w ⟨b,0,none⟩ Tryz.underlying267 Tryz.underlying95 hj hsh liesB]
 simp only [Result.andThen]
 rw [Oper.upon_value]
 go_wp2
 try rw [hne]
 try go_wp2
 go_end0
 exact ⟨rfl,rfl⟩
theorem Qbm (B b : Nat) (bs : List Value) (w : World) (h : Lib.IsBuilderF 98 5 B b bs w) :
 Calls Tryz.prog 143 #[.pointer (some ⟨b,0,none⟩)] w fun e w' => e = .returned (.tuple #[]) ∧ (Lib.BuilderAtF 98 5 B b (.pointer (some ⟨b,0,none⟩)) bs w' ∧ Below B w w' ∧ Lib.OthersKept 5 (some b) w w'):=by
 rcases h with h | h
 ·refine (Qc6 b w h.cell0 h.shape h.frozen0).mono ?_
  rintro e w' ⟨rfl,rfl⟩
  exact ⟨rfl,h.used _,(Below.refl B w).setCell (p:=⟨b,0,none⟩) h.1 _,(Lib.OthersKept.refl _ _ w).setCell ⟨b,0,none⟩ rfl _⟩
 ·refine (Qd1 b w h.cell0).mono ?_
  rintro e w' ⟨rfl,rfl⟩
  exact ⟨rfl,h,Below.refl B _,Lib.OthersKept.refl _ _ _⟩
set_option maxHeartbeats 2000000 in
set_option maxRecDepth 100000 in
theorem Qeb (B b : Nat) (bs : List Value) (c : Int) (w : World) (h : Lib.IsBuilderF 98 5 B b bs w) (hlen : bs.length + 1 ≤ 140737488355328) (hBw : B ≤ w.heap.size) :
 Calls Tryz.prog 190 #[.pointer (some ⟨b,0,none⟩),.int .u8 c] w fun e w' => e = .returned .nilIface ∧ (Lib.IsBuilderF 98 5 B b (bs ++ [.int .u8 c]) w' ∧ Below B w w' ∧ Lib.OthersKept 5 (some b) w w'):=by
 obtain ⟨i0,hi,hz0,hz1,hz2⟩:=info_parts Qii
 go_enter Tryz.func190,Tryz.ntmps190
 go_wp2_with (go_at_call 143;refine (Qbm B b bs _ h).mono ?_)
 rintro e w1 ⟨rfl,h1,hb1,hk1⟩
 obtain ⟨hB,v,hbk,hown,hne⟩:=h1
 have c0 : w1.cell? ⟨b,0,none⟩ = some (.pointer (some ⟨b,0,none⟩)):=by rw [Lib.cell_of_heap hbk];rfl
 have c1 : w1.cell? ⟨b,1,none⟩ = some v:=by rw [Lib.cell_of_heap hbk];rfl
 go_wp2_with (at_builtin;refine wpList_append_ownF _ rfl _ _ 96 rfl B 5 i0 (.int .u8 0) 1 1 Tryz.underlying96 hi hz0 hz1 hz2 rfl (by decide) _ _ _ rfl (hown.alloc _) ⟨w1.heap.size,0,none⟩ 1 1 [.int .u8 c] rfl rfl ?c1 ?c2 ?c3 ?c4 ?c5 ?_)
 case c1 =>
  intro j u hj
  match j,hj with
  | 0,hj => simp at hj;subst hj;simp [Addr.add]
 case c2 => intro u hu;simp at hu;subst hu;rfl
 case c3 => unfold maxLen;omega
 case c4 => omega
 case c5 => have:=hb1.size;simp;omega
 intro v' w2 hown' hgrow _
 have hlt : b < w1.heap.size:=by
  rcases Nat.lt_or_ge b w1.heap.size with h' | h'
  ·exact h'
  ·simp [Array.getElem?_eq_none h'] at hbk
 have hb2 : w2.heap[b]? = some (.cells #[.pointer (some ⟨b,0,none⟩),v] 98 (0,0)):=by
  rw [hgrow.block b (by simp;omega) (fun e => hne e.symm),Lib.alloc_old w1 _ b hlt]
  exact hbk
 have d0 : w2.cell? ⟨b,0,none⟩ = some (.pointer (some ⟨b,0,none⟩)):=by rw [Lib.cell_of_heap hb2];rfl
 have d1 : w2.cell? ⟨b,1,none⟩ = some v:=by rw [Lib.cell_of_heap hb2];rfl
 have f1 : w2.frozen? ⟨b,1,none⟩ = false:=Lib.frozen_of_heap hb2 1
 obtain ⟨g,cap,rfl⟩ : ∃ g cap,v' = .slice (some ⟨g,0,none⟩) (bs.length + 1) cap:=by
  rcases hown'.2 with ⟨_,h0⟩ | ⟨g,cap,cur,fz,hv,_⟩
  ·omega
  ·exact ⟨g,cap,hv⟩
 go_wp2
 go_ret
 refine ⟨rfl,.inr ?_,?_,((hk1.alloc _).grown hgrow (Lib.ownsRowF_kind (hown.alloc _))).setCell ⟨b,1,none⟩ rfl _⟩
 ·exact Lib.BuilderAtF.put (T:=98) (e:=5) hB hb2 (bs':=bs ++ [.int .u8 c]) (by simpa using hown') (by decide)
 ·exact ((hb1.alloc (by have:=hb1.size;omega) _).grown hgrow (by have:=hb1.size;simp;omega) (fun k hk => (hown.lt k hk).1)).setCell (p:=⟨b,1,none⟩) hB _
set_option maxHeartbeats 2000000 in
set_option maxRecDepth 100000 in
theorem Qc5 (B b : Nat) (bs : List Value) (s : ByteArray) (w : World) (h : Lib.IsBuilderF 98 5 B b bs w) (hlen : bs.length + s.size ≤ 140737488355328) (hBw : B ≤ w.heap.size) :
 Calls Tryz.prog 87 #[.pointer (some ⟨b,0,none⟩),.string s] w fun e w' => e = .returned (.tuple #[.int .i64 s.size,.nilIface]) ∧ (Lib.IsBuilderF 98 5 B b (bs ++ Lib.strCells s) w' ∧ Below B w w' ∧ Lib.OthersKept 5 (some b) w w'):=by
 obtain ⟨i0,hi,hz0,hz1,hz2⟩:=info_parts Qii
 go_enter Tryz.func87,Tryz.ntmps87
 go_wp2_with (go_at_call 143;refine (Qbm B b bs _ h).mono ?_)
 rintro e w1 ⟨rfl,h1,hb1,hk1⟩
 obtain ⟨hB,v,hbk,hown,hne⟩:=h1
 have c0 : w1.cell? ⟨b,0,none⟩ = some (.pointer (some ⟨b,0,none⟩)):=by rw [Lib.cell_of_heap hbk];rfl
 have c1 : w1.cell? ⟨b,1,none⟩ = some v:=by rw [Lib.cell_of_heap hbk];rfl
 go_wp2_with (at_builtin;refine Lib.wpList_append_own_stringF _ rfl _ _ 96 9 rfl B 5 i0 Tryz.underlying96 Tryz.underlying9 hi hz0 hz1 hz2 _ _ _ rfl hown s rfl ?c3 ?c4 ?c5 ?_)
 case c3 => unfold maxLen;omega
 case c4 => omega
 case c5 => have:=hb1.size;omega
 intro v' w2 hown' hgrow _
 have hlt : b < w1.heap.size:=by
  rcases Nat.lt_or_ge b w1.heap.size with h' | h'
  ·exact h'
  ·simp [Array.getElem?_eq_none h'] at hbk
 have hb2 : w2.heap[b]? = some (.cells #[.pointer (some ⟨b,0,none⟩),v] 98 (0,0)):=by
  rw [hgrow.block b hlt (fun e => hne e.symm)]
  exact hbk
 have d0 : w2.cell? ⟨b,0,none⟩ = some (.pointer (some ⟨b,0,none⟩)):=by rw [Lib.cell_of_heap hb2];rfl
 have d1 : w2.cell? ⟨b,1,none⟩ = some v:=by rw [Lib.cell_of_heap hb2];rfl
 have f1 : w2.frozen? ⟨b,1,none⟩ = false:=Lib.frozen_of_heap hb2 1
 obtain ⟨ao,n',cap,rfl⟩ : ∃ ao n' cap,v' = .slice ao n' cap:=by
  rcases hown'.2 with ⟨hv,_⟩ | ⟨g,cap,cur,fz,hv,_⟩
  ·exact ⟨_,_,_,hv⟩
  ·exact ⟨_,_,_,hv⟩
 go_wp2
 go_ret2
 refine ⟨rfl,.inr ?_,?_,(hk1.grown hgrow (Lib.ownsRowF_kind hown)).setCell ⟨b,1,none⟩ rfl _⟩
 ·exact Lib.BuilderAtF.put (T:=98) (e:=5) hB hb2 (bs':=bs ++ Lib.strCells s) (by simpa [Lib.strCells_length] using hown') (by decide)
 ·exact (hb1.grown hgrow (by have:=hb1.size;omega) (fun k hk => (hown.lt k hk).1)).setCell (p:=⟨b,1,none⟩) hB _
end Go.Proofs.YtiaenhlflgobfaaGreatDoor
namespace Go.Proofs.YtiaenhlflgobfaaGreatDoor
open Go.RowKit
theorem liesW : liesAt Tryz.prog Tryz.prog.depth 100 (2 / Tryz.prog.cellsOf 100) 0 98 1 = true:=by kernel_rfl
set_option maxHeartbeats 1000000 in
set_option maxRecDepth 100000 in
theorem Qc7 (b : Nat) (w : World) (h0 : w.cell? ⟨b,0,none⟩ = some (.pointer (some ⟨b,0,none⟩))) :
 Calls Tryz.prog 143 #[.pointer (some ⟨b,0,none⟩)] w fun e w' => e = .returned (.tuple #[]) ∧ w' = w:=by
 obtain ⟨j,hj,_⟩:=Option.map_eq_some_iff.1 Qjr
 have hne:=Lib.run_neq_ptr_same w ⟨b,0,none⟩ Tryz.underlying95 hj
 go_enter Tryz.func143,Tryz.ntmps143
 go_wp2
 try rw [hne]
 try go_wp2
 go_end0
 exact ⟨rfl,rfl⟩
set_option maxHeartbeats 1000000 in
set_option maxRecDepth 100000 in
theorem Qcu (b : Nat) (w : World) (h0 : w.cell? ⟨b,0,none⟩ = some (.pointer none)) (hsh : w.shape? b = some (100,2)) (hfz : w.frozen? ⟨b,0,none⟩ = false) :
 Calls Tryz.prog 143 #[.pointer (some ⟨b,0,none⟩)] w fun e w' => e = .returned (.tuple #[]) ∧ w' = w.setCell ⟨b,0,none⟩ (.pointer (some ⟨b,0,none⟩)):=by
 obtain ⟨j,hj,hjs⟩:=Option.map_eq_some_iff.1 Qjr
 have hne:=Lib.run_neq_ptr_same (w.setCell ⟨b,0,none⟩ (.pointer (some ⟨b,0,none⟩))) ⟨b,0,none⟩ Tryz.underlying95 hj
 go_enter Tryz.func143,Tryz.ntmps143
 go_wp2
 rw [Lib.run_to_unsafe w ⟨b,0,none⟩ Tryz.underlying95 Tryz.underlying267 hj (by rw [hjs];decide) hsh (Nat.zero_lt_succ 1)]
 simp only [Result.andThen]
 rw [Oper.upon_value]
 go_wp2
 rw [run_callFunc_extern Tryz.func191 (by kernel_rfl) (by kernel_rfl) (by kernel_rfl) (e:=Extern.AbiNoEscape.same) (by kernel_rfl)]
 rw [Lib.run_noEscape]
 simp only [Result.andThen]
 rw [Oper.upon_value]
 go_wp2
 rw [Lib.run_from_unsafe w ⟨b,0,none⟩ Tryz.underlying267 Tryz.underlying95 hj hsh liesW]
 simp only [Result.andThen]
 rw [Oper.upon_value]
 go_wp2
 try rw [hne]
 try go_wp2
 go_end0
 exact ⟨rfl,rfl⟩
theorem Qd2 (B b : Nat) (bs : List Value) (w : World) (h : Lib.IsBuilderF 100 5 B b bs w) :
 Calls Tryz.prog 143 #[.pointer (some ⟨b,0,none⟩)] w fun e w' => e = .returned (.tuple #[]) ∧ (Lib.BuilderAtF 100 5 B b (.pointer (some ⟨b,0,none⟩)) bs w' ∧ Below B w w' ∧ Lib.OthersKept 5 (some b) w w'):=by
 rcases h with h | h
 ·refine (Qcu b w h.cell0 h.shape h.frozen0).mono ?_
  rintro e w' ⟨rfl,rfl⟩
  exact ⟨rfl,h.used _,(Below.refl B w).setCell (p:=⟨b,0,none⟩) h.1 _,(Lib.OthersKept.refl _ _ w).setCell ⟨b,0,none⟩ rfl _⟩
 ·refine (Qc7 b w h.cell0).mono ?_
  rintro e w' ⟨rfl,rfl⟩
  exact ⟨rfl,h,Below.refl B _,Lib.OthersKept.refl _ _ _⟩
set_option maxHeartbeats 2000000 in
set_option maxRecDepth 100000 in
theorem Qcl (B b : Nat) (bs : List Value) (s : ByteArray) (w : World) (h : Lib.IsBuilderF 100 5 B b bs w) (hlen : bs.length + s.size ≤ 140737488355328) (hBw : B ≤ w.heap.size) :
 Calls Tryz.prog 87 #[.pointer (some ⟨b,0,none⟩),.string s] w fun e w' => e = .returned (.tuple #[.int .i64 s.size,.nilIface]) ∧ (Lib.IsBuilderF 100 5 B b (bs ++ Lib.strCells s) w' ∧ Below B w w' ∧ Lib.OthersKept 5 (some b) w w'):=by
 obtain ⟨i0,hi,hz0,hz1,hz2⟩:=info_parts Qii
 go_enter Tryz.func87,Tryz.ntmps87
 go_wp2_with (go_at_call 143;refine (Qd2 B b bs _ h).mono ?_)
 rintro e w1 ⟨rfl,h1,hb1,hk1⟩
 obtain ⟨hB,v,hbk,hown,hne⟩:=h1
 have c0 : w1.cell? ⟨b,0,none⟩ = some (.pointer (some ⟨b,0,none⟩)):=by rw [Lib.cell_of_heap hbk];rfl
 have c1 : w1.cell? ⟨b,1,none⟩ = some v:=by rw [Lib.cell_of_heap hbk];rfl
 go_wp2_with (at_builtin;refine Lib.wpList_append_own_stringF _ rfl _ _ 96 9 rfl B 5 i0 Tryz.underlying96 Tryz.underlying9 hi hz0 hz1 hz2 _ _ _ rfl hown s rfl ?c3 ?c4 ?c5 ?_)
 case c3 => unfold maxLen;omega
 case c4 => omega
 case c5 => have:=hb1.size;omega
 intro v' w2 hown' hgrow _
 have hlt : b < w1.heap.size:=by
  rcases Nat.lt_or_ge b w1.heap.size with h' | h'
  ·exact h'
  ·simp [Array.getElem?_eq_none h'] at hbk
 have hb2 : w2.heap[b]? = some (.cells #[.pointer (some ⟨b,0,none⟩),v] 100 (0,0)):=by
  rw [hgrow.block b hlt (fun e => hne e.symm)]
  exact hbk
 have d0 : w2.cell? ⟨b,0,none⟩ = some (.pointer (some ⟨b,0,none⟩)):=by rw [Lib.cell_of_heap hb2];rfl
 have d1 : w2.cell? ⟨b,1,none⟩ = some v:=by rw [Lib.cell_of_heap hb2];rfl
 have f1 : w2.frozen? ⟨b,1,none⟩ = false:=Lib.frozen_of_heap hb2 1
 obtain ⟨ao,n',cap,rfl⟩ : ∃ ao n' cap,v' = .slice ao n' cap:=by
  rcases hown'.2 with ⟨hv,_⟩ | ⟨g,cap,cur,fz,hv,_⟩
  ·exact ⟨_,_,_,hv⟩
  ·exact ⟨_,_,_,hv⟩
 go_wp2
 go_ret2
 refine ⟨rfl,.inr ?_,?_,(hk1.grown hgrow (Lib.ownsRowF_kind hown)).setCell ⟨b,1,none⟩ rfl _⟩
 ·exact Lib.BuilderAtF.put (T:=100) (e:=5) hB hb2 (bs':=bs ++ Lib.strCells s) (by simpa [Lib.strCells_length] using hown') (by decide)
 ·exact (hb1.grown hgrow (by have:=hb1.size;omega) (fun k hk => (hown.lt k hk).1)).setCell (p:=⟨b,1,none⟩) hB _
set_option maxHeartbeats 2000000 in
set_option maxRecDepth 100000 in
theorem Qgo (B b : Nat) (l : List UInt8) (w : World) (h : Lib.IsBuilderF 100 5 B b (Lib.byteCells l) w) (h0 : l ≠ []) :
 Calls Tryz.prog 46 #[.pointer (some ⟨b,0,none⟩)] w fun e w' => e = .returned (.string ⟨l.toArray⟩) ∧ Below B w w':=by
 obtain ⟨p,hAt⟩ : ∃ p,Lib.BuilderAtF 100 5 B b p (Lib.byteCells l) w:=by
  rcases h with h | h
  ·exact ⟨_,h⟩
  ·exact ⟨_,h⟩
 obtain ⟨hB,v,hbk,hown,hne⟩:=hAt
 have hl0 : l.length ≠ 0:=by simpa using h0
 rw [Lib.byteCells_length] at hown
 obtain ⟨g,cap,cur,fz,rfl,hbg,hg,hfz,hnc,hcm,hcs,htake⟩ : ∃ g cap cur fz,v = .slice (some ⟨g,0,none⟩) l.length cap ∧ B ≤ g ∧ w.heap[g]? = some (.cells cur 5 fz) ∧ fz.2 ≤ l.length * 1 ∧ l.length ≤ cap ∧ cap ≤ maxLen ∧ cur.size = cap * 1 ∧ cur.toList.take (l.length * 1) = Lib.byteCells l:=by
  rcases hown.2 with ⟨_,hz⟩ | ⟨g,cap,cur,fz,hv,r⟩
  ·exact absurd hz hl0
  ·exact ⟨g,cap,cur,fz,hv,r⟩
 have c1 : w.drew.cell? ⟨b,1,none⟩ = some (.slice (some ⟨g,0,none⟩) l.length cap):=by
  have : w.drew.heap[b]? = some (.cells #[p,.slice (some ⟨g,0,none⟩) l.length cap] 100 (0,0)):=hbk
  rw [Lib.cell_of_heap this];rfl
 have hSD : (Builtin.unsafeSliceData_ #[96] 166 #[.slice (some ⟨g,0,none⟩) l.length cap]).run Tryz.prog w.drew = .ok (.pointer (some ⟨g,0,none⟩)) w.drew :=
  Lib.run_unsafeSliceData_row _ _ _ _ _ _ (by omega)
 have hUS : (Builtin.unsafeString_ #[166,3] 9 #[.pointer (some ⟨g,0,none⟩),.int .i64 l.length]).run Tryz.prog w.drew = .ok (.string ⟨l.toArray⟩) (w.drew.freeze ⟨g,0,none⟩ l.length):=by
  refine Lib.run_unsafeString_row w.drew 166 3 9 5 Tryz.underlying166 Tryz.Builder_Extra_169.cellsByte g cur.size (by have hg' : w.drew.heap[g]? = some (.cells cur 5 fz):=hg;simp [World.shape?,hg']) l h0 (by omega) (by unfold maxLen at hcm;omega) ?_
  intro j x hx
  have:=hown.cells (g:=g) rfl j (.int .u8 x.toNat) (by simp [Lib.byteCells,hx])
  exact this
 have HF : Below B w (w.drew.freeze ⟨g,0,none⟩ l.length):=Lib.below_freeze (Below.drew (Below.refl B w)) (p:=⟨g,0,none⟩) hbg _
 have HH:=Qo0 HF
 clear HF hown htake hcs hcm hnc hfz hg hbk h
 go_enter Tryz.func46,Tryz.ntmps46
 go_wp2
 go_region
 all_goals (go_wp2;go_ret;exact ⟨rfl,HH.out⟩)
end Go.Proofs.YtiaenhlflgobfaaGreatDoor
namespace Go.Proofs.YtiaenhlflgobfaaGreatDoor
open Go.RowKit Go.Shelf
attribute [local go_sem] Oper.semAt_some
theorem Qkj {pre : List UInt8} {u v : Nat} (h : pre ++ dig u = dig v) : pre.length < (dig v).length:=by
 have h2:=List.length_pos_iff.2 (dig_ne u)
 rw [← h,List.length_append]
 omega
def natAt (g : Nat) (W : World) : Nat :=
 match W.cell? ⟨g,0,none⟩ with
 | some (.int _ i) => i.toNat
 | _ => 0
theorem Qg0 {g : Nat} {W : World} {v : Nat} (h : W.heap[g]? = some (.cells #[.int .i64 v] 3 (0,0))) : natAt g W = v:=by
 have:=Lib.cell_of_heap h 0
 simp [natAt,this]
theorem byte_hi (v : Nat) : ((UInt8.ofNat (v % 128 + 128)).toNat : Int) = (v : Int) % 128 + 128:=by
 simp
 omega
theorem byte_lo {v : Nat} (h : v < 128) : ((UInt8.ofNat v).toNat : Int) = (v : Int):=by
 simp
 omega
set_option maxRecDepth 100000 in
set_option maxHeartbeats 4000000 in
theorem dig_in (n : Nat) (hn : 1 ≤ n) (l g : Nat) (J : List UInt8 → World → Prop)
 (hJ : ∀ s A u,J s A → J s (A.setCell ⟨g,0,none⟩ u))
 (v : Nat) (hY : ∀ pre x W,J pre W → pre.length < (dig v).length → YieldAt Fence.wide (n - 1) Tryz.prog l #[.int .u8 (x.toNat : Int)] W fun e W' => e = .returned (.bool true) ∧ J (pre ++ [x]) W' ∧ W'.heap[g]? = W.heap[g]?)
 (hv : v ≤ 9223372036854775807) (W : World) (hg : W.heap[g]? = some (.cells #[.int .i64 v] 3 (0,0))) (h0 : J [] W) :
 CallsIn Fence.wide n Tryz.prog 214 #[.func (.yield l) #[] #[],.pointer (some ⟨g,0,none⟩)] W fun e W' => (∃ r,e = .returned r) ∧ J (dig v) W':=by
 refine callsIn_of_wp Tryz.func214 rfl trivial ?_ rfl
 simp only [Tryz.ntmps214,List.size_toArray,List.length_cons,List.length_nil,Nat.reduceAdd,Nat.reduceSub,Array.replicate_succ,Array.replicate_zero,List.push_toArray,List.append_toArray,List.nil_append,List.cons_append]
 gi_wp2
 gi_loopw [] (fun wr => ∃ (pre : List UInt8) (u : Nat),wr.heap[g]? = some (.cells #[.int .i64 u] 3 (0,0)) ∧ u ≤ 9223372036854775807 ∧ pre ++ dig u = dig v ∧ J pre wr)
  (fun wr => natAt g wr)
 case atStart =>
  exact ⟨[],v,hg,hv,rfl,h0⟩
 case round =>
  obtain ⟨pre,u,hu,hu2,hx,hJs⟩:=hrel
  have hc:=Lib.cell_of_heap hu 0
  have hf:=Lib.frozen_of_heap hu 0
  simp only [List.getElem?_toArray,List.getElem?_cons_zero] at hc
  by_cases h : u < 128
  ·have h1 : ((u : Int) ≥ 128) = False:=by simp;omega
   obtain ⟨fn,tmps,assign,body,hy,hR⟩:=hY pre (UInt8.ofNat u) wr hJs (Qkj hx)
   rw [byte_lo h] at hy
   gi_wp2
   refine hR.mono ?_
   rintro e W3 ⟨rfl,hJ3,hk3⟩
   gi_wp2
   go_end0
   refine ⟨⟨_,rfl⟩,?_⟩
   rw [← hx,Yv h]
   exact hJ3
  ·have h1 : ((u : Int) ≥ 128) = True:=by simp;omega
   obtain ⟨fn,tmps,assign,body,hy,hR⟩:=hY pre (UInt8.ofNat (u % 128 + 128)) wr hJs (Qkj hx)
   rw [byte_hi u] at hy
   gi_wp2
   refine hR.mono ?_
   rintro e W3 ⟨rfl,hJ3,hk3⟩
   have hu3:=hk3.trans hu
   have hc3:=Lib.cell_of_heap hu3 0
   have hf3:=Lib.frozen_of_heap hu3 0
   simp only [List.getElem?_toArray,List.getElem?_cons_zero] at hc3
   gi_wp2
   have hd : (u : Int) / 128 = ((u / 128 : Nat) : Int):=by omega
   have hn3 : (W3.setCell ⟨g,0,none⟩ (.int .i64 ((u : Int) / 128))).heap[g]? = some (.cells #[.int .i64 ((u / 128 : Nat) : Int)] 3 (0,0)):=by
    rw [hd];simp [World.setCell,Array.getElem?_modify,hu3]
   go_roundw
   case rel =>
    exact ⟨pre ++ [UInt8.ofNat (u % 128 + 128)],u / 128,hn3,by omega,by rw [← hx,Xp h];simp,hJ _ _ _ hJ3⟩
   case measure =>
    rw [Qg0 hn3,Qg0 hu];omega
end Go.Proofs.YtiaenhlflgobfaaGreatDoor
namespace Go.Proofs.YtiaenhlflgobfaaGreatDoor
open Go.RowKit Go.Shelf
attribute [local go_sem] Oper.semAt_some
theorem Qe7 {B b : Nat} {p : Value} {bs : List Value} {W W' : World} {r : Nat} {o : Obj} (h : Lib.BuilderAtF 98 5 B b p bs W) (hg : W.grownBy W' (some r)) (ho : W.heap[r]? = some o) (hk : ∀ c fz,o ≠ .cells c 5 fz) (hb : r ≠ b) : Lib.BuilderAtF 98 5 B b p bs W':=by
 have hlt:=h.lt
 obtain ⟨hB,v,hv,hown,hne⟩:=h
 refine ⟨hB,v,(hg.block b hlt (fun e => hb (by simpa using e.symm))).trans hv,hown.kept hg (.inr ?_),hne⟩
 rcases hown.2 with ⟨rfl,_⟩ | ⟨g,cap,cur,fz,rfl,_,hgg,_⟩
 ·simp [Value.ownBlock]
 ·intro e
  simp only [Value.ownBlock,Option.some.injEq] at e
  subst e
  rw [hgg] at ho
  exact hk _ _ (Option.some.inj ho).symm
theorem Qcz {B b : Nat} {bs : List Value} {W W' : World} {r : Nat} {o : Obj} (h : Lib.IsBuilderF 98 5 B b bs W) (hg : W.grownBy W' (some r)) (ho : W.heap[r]? = some o) (hk : ∀ c fz,o ≠ .cells c 5 fz) (hb : r ≠ b) : Lib.IsBuilderF 98 5 B b bs W' :=
 h.elim (fun x => .inl (Qe7 x hg ho hk hb)) (fun x => .inr (Qe7 x hg ho hk hb))
theorem bld_lt {B b : Nat} {bs : List Value} {W : World} (h : Lib.IsBuilderF 98 5 B b bs W) : b < W.heap.size:=h.elim (fun x => x.lt) (fun x => x.lt)
theorem Qee (W : World) (g : Nat) (u : Value) : W.grownBy (W.setCell ⟨g,0,none⟩ u) (some g) :=
 ⟨rfl,rfl,rfl,by simp [World.setCell],fun k _ hk => Below.heap_setCell _ _ _ _ (fun e => hk (by simp [e]))⟩
theorem Qdq {b : Option Nat} {w W W' : World} (h : Lib.OthersKept 5 b w W) (hl : ∀ i,i < w.heap.size → W'.heap[i]? = W.heap[i]?) : Lib.OthersKept 5 b w W' :=
 fun i o hi hb ho => (hl i (Array.getElem?_eq_some_iff.1 hi).1).trans (h i o hi hb ho)
set_option maxRecDepth 100000 in
theorem Qiw (v : Int) (w : World) :
 Calls Tryz.prog 189 #[.int .i64 v] w fun e w' => e = .returned (.func (.func 214) #[] #[.pointer (some ⟨w.heap.size,0,none⟩)]) ∧ w' = w.alloc (.cells #[.int .i64 v] 3):=by
 go_enter Tryz.func189,Tryz.ntmps189
 go_wp2
 go_ret
 exact ⟨rfl,rfl⟩
structure WJ (w : World) (B b : Nat) (bs : List Value) (L : Nat) (r : Loop) (pre : List UInt8) (W : World) : Prop where
 bu : Lib.IsBuilderF 98 5 B b (bs ++ Lib.byteCells pre) W
 k : W.heap[w.heap.size]? = some (.cells #[.pointer (some ⟨b,0,none⟩)] 95 (0,0))
 g : ∃ c,W.heap[w.heap.size + 1]? = some (.cells #[c] 3 (0,0))
 l : W.heap[L + 1]? = some (.loop r)
 d : W.heap[L]? = some (.deferred (some []))
 be : Below B w W
 ok : Lib.OthersKept 5 (some b) w W
theorem WJ.set {w : World} {B b : Nat} {bs : List Value} {L : Nat} {r : Loop} {pre : List UInt8} {W : World} (h : WJ w B b bs L r pre W) (hb : b < w.heap.size) (hB : B ≤ w.heap.size) (hL : w.heap.size + 2 ≤ L) (u : Value) :
 WJ w B b bs L r pre (W.setCell ⟨w.heap.size + 1,0,none⟩ u):=by
 obtain ⟨c,hc⟩:=h.g
 have ht : ∀ i,i ≠ w.heap.size + 1 → (W.setCell ⟨w.heap.size + 1,0,none⟩ u).heap[i]? = W.heap[i]?:=fun i hi => Below.heap_setCell _ _ _ _ (fun e => hi (by simpa using e))
 refine ⟨Qcz h.bu (Qee _ _ _) hc (fun c' fz e => by cases e) (by omega),(ht _ (by omega)).trans h.k,⟨u,?_⟩,(ht _ (by omega)).trans h.l,(ht _ (by omega)).trans h.d,h.be.setCell (p:=⟨w.heap.size + 1,0,none⟩) (by show B ≤ w.heap.size + 1;omega) _,Qdq h.ok fun i hi => ht i (by omega)⟩
 simp [World.setCell,Array.getElem?_modify,hc]
theorem WJ.put {w : World} {B b : Nat} {bs : List Value} {L : Nat} {r : Loop} {pre : List UInt8} {W : World} (h : WJ w B b bs L r pre W) (hb : b < w.heap.size) (hB : B ≤ w.heap.size) (hL : w.heap.size + 2 ≤ L) (r' : Loop) :
 WJ w B b bs L r' pre (W.putObj (L + 1) (.loop r')):=by
 have ht : ∀ i,i ≠ L + 1 → (W.putObj (L + 1) (.loop r')).heap[i]? = W.heap[i]?:=fun i hi => World.putObj_heap_other (by omega)
 obtain ⟨c,hc⟩:=h.g
 refine ⟨Qcz h.bu (grownBy_putObj' W (L + 1) _) h.l (fun c' fz e => by cases e) (by omega),(ht _ (by omega)).trans h.k,⟨c,(ht _ (by omega)).trans hc⟩,World.putObj_heap_same (Array.getElem?_eq_some_iff.1 h.l).1,(ht _ (by omega)).trans h.d,?_,Qdq h.ok fun i hi => ht i (by omega)⟩
 exact h.be.trans (belowK_b (w:=w) hB W (L + 1) _ _ (by omega) h.l rfl rfl)
set_option maxRecDepth 100000 in
set_option maxHeartbeats 4000000 in
theorem Qb0 (B b : Nat) (bs : List Value) (v : Nat) (w : World) (h : Lib.IsBuilderF 98 5 B b bs w) (hv : v ≤ 1099511627776) (hlen : bs.length + 10 ≤ 140737488355328) (hB : B ≤ w.heap.size) :
 Calls Tryz.prog 142 #[.pointer (some ⟨b,0,none⟩),.int .i64 v] w fun e w' => e = .returned (.tuple #[]) ∧ Lib.IsBuilderF 98 5 B b (bs ++ Lib.byteCells (dig v)) w' ∧ Below B w w' ∧ Lib.OthersKept 5 (some b) w w':=by
 have hb:=bld_lt h
 refine (callsIn_wide (n:=5)).1 ?_
 refine callsIn_of_wp_marks Tryz.func142 rfl trivial ?_ rfl
 simp only [Tryz.ntmps142,List.size_toArray,List.length_cons,List.length_nil,Nat.reduceAdd,Nat.reduceSub,Array.replicate_succ,Array.replicate_zero,List.push_toArray,List.append_toArray,List.nil_append,List.cons_append]
 gi_wp2_with (refine ⟨trivial,?_⟩;gi_at_call 189;refine (callsIn_wide.2 (Qiw _ _)).mono ?_;rintro e w' ⟨rfl,rfl⟩)
 obtain ⟨W0,hW0⟩ : ∃ W0,(w.alloc (.cells #[.pointer (some ⟨b,0,none⟩)] 95)).alloc (.cells #[.int .i64 (v : Int)] 3) = W0:=⟨_,rfl⟩
 have s0 : W0.heap.size = w.heap.size + 2:=by rw [← hW0];simp
 have b0 : Lib.IsBuilderF 98 5 B b bs W0:=by rw [← hW0];exact (h.alloc _).alloc _
 have k0 : W0.heap[w.heap.size]? = some (.cells #[.pointer (some ⟨b,0,none⟩)] 95 (0,0)):=by
  rw [← hW0];exact (Below.heap_alloc _ _ _ (by simp)).trans (World.alloc_heap_new w _)
 have g0 : W0.heap[w.heap.size + 1]? = some (.cells #[.int .i64 (v : Int)] 3 (0,0)):=by
  rw [← hW0];have:=World.alloc_heap_new (w.alloc (.cells #[.pointer (some ⟨b,0,none⟩)] 95)) (.cells #[.int .i64 (v : Int)] 3);rwa [World.size_alloc] at this
 have e0 : Below B w W0:=by rw [← hW0];exact ((Below.refl B w).alloc hB _).alloc (by simp;omega) _
 have o0 : Lib.OthersKept 5 (some b) w W0:=by rw [← hW0];exact ((Lib.OthersKept.refl _ _ w).alloc _).alloc _
 rw [hW0]
 have hD : w.heap.size + 2 ≤ W0.heap.size:=by omega
 clear hW0 s0
 refine Xz (gf:=214) (lb:=#[.pointer (some ⟨w.heap.size + 1,0,none⟩)]) rfl (enters_of Tryz.func214 (by kernel_rfl) rfl) ?_
 intro fn
 generalize hr : ({ state:=.ready,pending:=none,fn:=fn,tmps:=_,params:=_,assign:=_,body:=_,defers:=W0.heap.size } : Loop) = r
 obtain ⟨W1,hW1⟩ : ∃ W1,(W0.alloc (.deferred (some []))).alloc (.loop r) = W1:=⟨_,rfl⟩
 have j0 : WJ w B b bs W0.heap.size r [] W1:=by
  rw [← hW1]
  refine ⟨by simpa [Lib.byteCells] using (b0.alloc _).alloc _,?_,⟨.int .i64 v,?_⟩,?_,?_,?_,?_⟩
  ·exact ((Below.heap_alloc _ _ _ (by simp;omega)).trans (Below.heap_alloc _ _ _ (by omega))).trans k0
  ·exact ((Below.heap_alloc _ _ _ (by simp;omega)).trans (Below.heap_alloc _ _ _ (by omega))).trans g0
  ·have:=World.alloc_heap_new (W0.alloc (.deferred (some []))) (.loop r);rwa [World.size_alloc] at this
  ·exact (Below.heap_alloc _ _ _ (by simp)).trans (World.alloc_heap_new W0 _)
  ·exact (e0.alloc (by omega) _).alloc (by simp;omega) _
  ·exact (o0.alloc _).alloc _
 have g1 : W1.heap[w.heap.size + 1]? = some (.cells #[.int .i64 (v : Int)] 3 (0,0)):=by
  rw [← hW1];exact ((Below.heap_alloc _ _ _ (by simp;omega)).trans (Below.heap_alloc _ _ _ (by omega))).trans g0
 rw [hW1]
 clear hW1
 refine (dig_in 4 (by omega) (W0.heap.size + 1) (w.heap.size + 1) (WJ w B b bs W0.heap.size r) (fun s A u hA => hA.set hb hB (by omega) u) v ?_ (by omega) W1 g1 j0).mono ?_
 ·intro pre x W hj hpre
  have hsix:=Zl hv
  have hy:=run_yield (P:=Tryz.prog) (args:=#[.int .u8 (x.toNat : Int)]) hj.l (by rw [← hr];rfl)
  rw [← hr] at hy
  refine ⟨_,_,_,_,hy,roundIn_of_wpIn trivial ?_⟩
  clear hy
  simp only [List.zip_toArray,List.zip_cons_cons,List.zip_nil_right,List.foldl_toArray,List.foldl_cons,List.foldl_nil,List.setIfInBounds_toArray,List.set_cons_succ,List.set_cons_zero]
  gi_wp2
  refine ⟨_,run_beginRound hj.l (by rw [← hr]),?_⟩
  have hj2:=hj.put hb hB (by omega) { r with state:=.busy }
  have hg2 : (W.putObj (W0.heap.size + 1) (.loop { r with state:=.busy })).heap[w.heap.size + 1]? = W.heap[w.heap.size + 1]?:=World.putObj_heap_other (by omega)
  generalize W.putObj (W0.heap.size + 1) (.loop { r with state:=.busy }) = W2 at *
  have ck:=Lib.cell_of_heap hj2.k 0
  simp only [List.getElem?_toArray,List.getElem?_cons_zero] at ck
  have hsz : B ≤ W2.heap.size:=Nat.le_trans hB hj2.be.size
  gi_wp2_with (refine ⟨trivial,?_⟩;gi_at_call 190;refine (CallsIn.inRound _ (callsIn_wide.2 (Qeb B b _ _ _ hj2.bu (by simp [Lib.byteCells];omega) hsz))).mono ?_;rintro e W3 ⟨rfl,h3,b3,k3⟩)
  obtain ⟨c2,hc2⟩:=hj2.g
  have hg3:=k3 _ _ hc2 (by simp;omega) (fun c fz e => by cases e)
  have hj3 : WJ w B b bs W0.heap.size { r with state:=.busy } (pre ++ [x]) W3 :=
   ⟨by rw [Lib.byteCells_append,← List.append_assoc];exact h3,k3 _ _ hj2.k (by simp;omega) (fun c fz e => by cases e),⟨c2,hg3⟩,k3 _ _ hj2.l (by simp;omega) (fun c fz e => by cases e),k3 _ _ hj2.d (by simp;omega) (fun c fz e => by cases e),hj2.be.trans b3,hj2.ok.trans k3⟩
  have hend:=run_endRound (P:=Tryz.prog) none hj3.l
  have hrr : ({ { r with state:=.busy } with state:=if (none : Option Code).isNone = true then .ready else .done,pending:=none } : Loop) = r:=by rw [← hr];rfl
  rw [hrr] at hend
  have hj4:=hj3.put hb hB (by omega) r
  refine ⟨_,_,hend,rfl,hj4,?_⟩
  rw [World.putObj_heap_other (by omega),hg3,← hc2,hg2]
 ·rintro e W2 ⟨⟨v',rfl⟩,hj⟩
  have hend:=run_endLoop (P:=Tryz.prog) hj.l (by rw [← hr];simp)
  have hp : r.pending = none:=by rw [← hr]
  rw [hp] at hend
  clear hp
  have hj4:=hj.put hb hB (by omega) { state:=.exhausted,pending:=none,fn:=r.fn,tmps:=r.tmps,params:=r.params,assign:=r.assign,body:=r.body,defers:=r.defers }
  refine ⟨none,_,hend,?_⟩
  generalize W2.putObj (W0.heap.size + 1) (.loop { state:=.exhausted,pending:=none,fn:=r.fn,tmps:=r.tmps,params:=r.params,assign:=r.assign,body:=r.body,defers:=r.defers }) = W3 at *
  gi_wp2
  refine ⟨by simp,.inl ⟨_,_,rfl,run_takeDeferred hj4.d,?_⟩⟩
  have hd:=hj4.d
  refine ⟨_,results_none rfl _ _ _,rfl,?_,?_,?_⟩
  ·exact Qcz hj4.bu (grownBy_putObj' W3 W0.heap.size _) hd (fun c fz e => by cases e) (by omega)
  ·exact hj4.be.trans (belowK_b (w:=w) hB W3 W0.heap.size _ _ (by omega) hd rfl rfl)
  ·exact Qdq hj4.ok fun i hi => World.putObj_heap_other (by omega)
end Go.Proofs.YtiaenhlflgobfaaGreatDoor
namespace Go.Proofs.YtiaenhlflgobfaaGreatDoor
open Go.RowKit
set_option maxRecDepth 100000 in
theorem Qon (n : Int) (w : World) : Calls Tryz.prog 141 #[.int .i64 n] w fun e w' => e = .returned (.bool (decide (0 ≤ n) && decide (n ≤ 1099511627776))) ∧ w' = w:=by
 by_cases h : 0 ≤ n
 ·have e0 : decide (0 ≤ n) = true:=by simpa using h
  go_enter Tryz.func141,Tryz.ntmps141
  go_wp2
  go_ret
  exact ⟨by first | rfl | (rw [e0];rfl),rfl⟩
 ·have e0 : decide (0 ≤ n) = false:=by simpa using h
  go_enter Tryz.func141,Tryz.ntmps141
  go_wp2
  go_ret
  exact ⟨by first | rfl | (rw [e0];rfl),rfl⟩
attribute [local irreducible] Calls in
set_option maxRecDepth 100000 in
set_option maxHeartbeats 1000000 in
theorem Qh7 (n : Nat) (hn : n ≤ 1099511627776) (w : World) : Calls Tryz.prog 86 #[.int .i64 n] w fun e w' => e = .returned (.tuple #[tv (dig n),.int .i64 0]) ∧ Gr w w':=by
 have IR:=Qo0 (fun V => show Calls Tryz.prog 141 #[.int .i64 n] V fun e w' => e = .returned (.bool true) ∧ w' = V from by
  have h:=Qon n V
  rwa [show (decide (0 ≤ (n : Int)) && decide ((n : Int) ≤ 1099511627776)) = true from by simp;omega] at h)
 have HB:=Qo0 (show Lib.IsBuilderF 98 5 w.heap.size w.heap.size [] (w.alloc (.cells #[.pointer none,.slice none 0 0] 98)) from Lib.IsBuilderF.of (Lib.fresh_isBuilder 98 5 w))
 have KB:=Qo0 (Qa w (.cells #[.pointer none,.slice none 0 0] 98))
 go_enter Tryz.func86,Tryz.ntmps86
 go_upto_region 4 with (go_at_call 141;refine (IR.out _).mono ?_;rintro e w' ⟨rfl,hw⟩;have hw:=hw.symm;subst hw)
 have hsz:=Qo0 (show w.heap.size ≤ (w.alloc (.cells #[.pointer none,.slice none 0 0] 98)).heap.size from by simp)
 generalize w.alloc (.cells #[.pointer none,.slice none 0 0] 98) = W1 at *
 go_wp2_with (first
  | (go_at_call 142;refine (Qb0 w.heap.size w.heap.size [] n W1 HB.out hn (by simp) hsz.out).mono ?_;rintro e w2 ⟨rfl,h2,b2,_⟩;have H2:=Qo0 h2;have G2:=Qo0 (Q2 (show Below w.heap.size w w2 from (Xf KB.out).trans b2));clear h2 b2)
  | (go_at_call 46;refine (Tryz.Builder_String_any_k w.heap.size w.heap.size (dig n) _ (by simpa using H2.out) G2.out.size).mono ?_;rintro e w3 ⟨rfl,_,b3,_⟩;have G3:=Qo0 (Q2 (show Below w.heap.size w w3 from (Xf G2.out).trans b3));clear b3))
 go_ret2
 exact ⟨rfl,G3.out⟩
attribute [local irreducible] Calls in
set_option maxRecDepth 100000 in
set_option maxHeartbeats 1000000 in
theorem Qgr (x : T) (hx : x.length ≤ 65536) (w : World) : Calls Tryz.prog 88 #[tv x] w fun e w' => e = .returned (.tuple #[tv (Qp x),.int .i64 0]) ∧ Gr w w':=by
 have HB:=Qo0 (show Lib.IsBuilderF 98 5 w.heap.size w.heap.size [] (w.alloc (.cells #[.pointer none,.slice none 0 0] 98)) from Lib.IsBuilderF.of (Lib.fresh_isBuilder 98 5 w))
 have KB:=Qo0 (Qa w (.cells #[.pointer none,.slice none 0 0] 98))
 have e1 : ((x.length : Int) > 65536) = False:=by simp;omega
 go_enter Tryz.func88,Tryz.ntmps88
 go_upto_region 4 with fail
 have hsz:=Qo0 (show w.heap.size ≤ (w.alloc (.cells #[.pointer none,.slice none 0 0] 98)).heap.size from by simp)
 generalize w.alloc (.cells #[.pointer none,.slice none 0 0] 98) = W1 at *
 go_wp2_with (first
  | (go_at_call 142;refine (Qb0 w.heap.size w.heap.size [] x.length W1 HB.out (by omega) (by simp) hsz.out).mono ?_;rintro e w2 ⟨rfl,h2,b2,_⟩;have H2:=Qo0 h2;have G2:=Qo0 (Q2 (show Below w.heap.size w w2 from (Xf KB.out).trans b2));clear h2 b2)
  | (go_at_call 87;refine (Qc5 w.heap.size w.heap.size _ ⟨x.toArray⟩ _ H2.out (by simp only [List.nil_append,Lib.byteCells_length];have:=Zl (n:=x.length) (by omega);show _ + x.length ≤ _;omega) G2.out.size).mono ?_;rintro e w3 ⟨rfl,h3,b3,_⟩;have H3:=Qo0 h3;have G3:=Qo0 (Q2 (show Below w.heap.size w w3 from (Xf G2.out).trans b3));clear h3 b3)
  | (go_at_call 46;refine (Tryz.Builder_String_any_k w.heap.size w.heap.size (Qp x) _ (by rw [Qp,Lib.byteCells_append];exact H3.out) G3.out.size).mono ?_;rintro e w4 ⟨rfl,_,b4,_⟩;have G4:=Qo0 (Q2 (show Below w.heap.size w w4 from (Xf G3.out).trans b4));clear b4))
 go_ret2
 exact ⟨rfl,G4.out⟩
theorem bat_gr {B b : Nat} {p : Value} {bs : List Value} {W W' : World} (h : Lib.BuilderAtF 100 5 B b p bs W) (hg : Gr W W') : Lib.BuilderAtF 100 5 B b p bs W':=by
 obtain ⟨hB,v,hv,hown,hne⟩:=h
 refine ⟨hB,v,Qe hg hv,hown.kept hg ?_,hne⟩
 cases v.ownBlock with
 | none => exact .inl rfl
 | some g => exact .inr (by simp)
theorem bld_gr {B b : Nat} {bs : List Value} {W W' : World} (h : Lib.IsBuilderF 100 5 B b bs W) (hg : Gr W W') : Lib.IsBuilderF 100 5 B b bs W':=h.elim (fun x => .inl (bat_gr x hg)) (fun x => .inr (bat_gr x hg))
structure WrS (w0 : World) (acc : T) (V : World) : Prop where
 bu : Lib.IsBuilderF 100 5 w0.heap.size w0.heap.size (Lib.byteCells acc) V
 gr : Gr w0 V
theorem WrS.go {w0 V V' : World} {acc : T} (h : WrS w0 acc V) (g : Gr V V') : WrS w0 acc V':=⟨bld_gr h.bu g,h.gr.trans g⟩
theorem WrS.new (w0 : World) : WrS w0 [] (w0.alloc (.cells #[.pointer none,.slice none 0 0] 100)):=⟨Lib.IsBuilderF.of (Lib.fresh_isBuilder 100 5 w0),Qa _ _⟩
abbrev OK5 (w0 V V' : World) : Prop:=Lib.OthersKept 5 (some w0.heap.size) V V'
theorem Qfn {w0 V V' : World} (g : Gr V V') : OK5 w0 V V':=fun _ _ hi _ _ => Qe g hi
theorem ok5_h {w0 V V' : World} {k : Nat} {cs : Array Value} {t : TypeId} (h : OK5 w0 V V') (ht : t ≠ 5) (hk : k ≠ w0.heap.size) (e : V.heap[k]? = some (.cells cs t (0,0))) : V'.heap[k]? = some (.cells cs t (0,0)):=by
 exact h k _ e (by intro e2;exact hk (by simpa using e2)) (fun c fz e2 => by cases e2;exact ht rfl)
def WrP (w0 : World) (acc : T) (V : World) (e : Ending) (V' : World) : Prop:=e = .returned (.tuple #[]) ∧ WrS w0 acc V' ∧ OK5 w0 V V'
attribute [local irreducible] Calls in
set_option maxRecDepth 100000 in
set_option maxHeartbeats 1000000 in
theorem wtail (w0 V V1 : World) (acc x : T) (h : WrS w0 acc V) (g : Gr V V1) (hl : acc.length + x.length ≤ 140737488355328) : Calls Tryz.prog 87 #[.pointer (some ⟨w0.heap.size,0,none⟩),tv x] V1 fun e w' => (∃ v,e = .returned v) ∧ WrS w0 (acc ++ x) w' ∧ OK5 w0 V w':=by
 have h1:=h.go g
 refine (Qcl w0.heap.size w0.heap.size _ ⟨x.toArray⟩ V1 h1.bu (by rw [Lib.byteCells_length];exact hl) h1.gr.size).mono ?_
 rintro e w2 ⟨rfl,h2,b2,k2⟩
 refine ⟨⟨_,rfl⟩,⟨by rw [Lib.byteCells_append];exact h2,Q2 ((Xf h1.gr).trans b2)⟩,(Qfn g).trans k2⟩
attribute [local irreducible] Calls in
set_option maxRecDepth 100000 in
set_option maxHeartbeats 1000000 in
theorem Qmn (w0 V : World) (acc : T) (m : Nat) (h : WrS w0 acc V) (hm : m ≤ 1099511627776) (hl : acc.length ≤ 100000000000000) : Calls Tryz.prog 43 #[.pointer (some ⟨w0.heap.size,0,none⟩),.int .i64 m] V (WrP w0 (acc ++ dig m) V):=by
 have HW:=Qo0 h
 have HS:=Qo0 (Zl hm)
 clear h
 go_enter Tryz.func43,Tryz.ntmps43
 go_wp2_with (first
  | (go_at_call 86;refine (Qh7 m hm _).mono ?_;rintro e w1 ⟨rfl,g1⟩;have G1:=Qo0 g1;clear g1)
  | (go_at_call 87;refine (wtail w0 V w1 acc (dig m) HW.out G1.out (by have:=HS.out;omega)).mono ?_;rintro e w2 ⟨⟨v,rfl⟩,h2,k2⟩;have H2:=Qo0 h2;have K2:=Qo0 k2;clear h2 k2))
 go_end0
 exact ⟨rfl,H2.out,K2.out⟩
attribute [local irreducible] Calls in
set_option maxRecDepth 100000 in
set_option maxHeartbeats 1000000 in
theorem Qkv (w0 V : World) (acc x : T) (h : WrS w0 acc V) (hx : x.length ≤ 65536) (hl : acc.length ≤ 100000000000000) : Calls Tryz.prog 44 #[.pointer (some ⟨w0.heap.size,0,none⟩),tv x] V (WrP w0 (acc ++ Qp x) V):=by
 have HW:=Qo0 h
 have HS:=Qo0 (show (Qp x).length ≤ 70000 from by have:=Zl (n:=x.length) (by omega);unfold Qp;rw [List.length_append];omega)
 clear h
 go_enter Tryz.func44,Tryz.ntmps44
 go_wp2_with (first
  | (go_at_call 88;refine (Qgr x hx _).mono ?_;rintro e w1 ⟨rfl,g1⟩;have G1:=Qo0 g1;clear g1)
  | (go_at_call 87;refine (wtail w0 V w1 acc (Qp x) HW.out G1.out (by have:=HS.out;omega)).mono ?_;rintro e w2 ⟨⟨v,rfl⟩,h2,k2⟩;have H2:=Qo0 h2;have K2:=Qo0 k2;clear h2 k2))
 go_end0
 exact ⟨rfl,H2.out,K2.out⟩
end Go.Proofs.YtiaenhlflgobfaaGreatDoor
namespace Go.Proofs.YtiaenhlflgobfaaGreatDoor
open Go.RowKit
theorem WrS.lt {w0 V : World} {acc : T} (h : WrS w0 acc V) : w0.heap.size < V.heap.size:=h.bu.elim (fun x => x.lt) (fun x => x.lt)
theorem Yd (w0 V : World) (acc acc' : T) (n : Int) (m : Nat) (h : WrS w0 acc V) (hn : n = m) (hm : m ≤ 1099511627776) (hl : acc.length ≤ 100000000000000) (e : acc' = acc ++ dig m) : Calls Tryz.prog 43 #[.pointer (some ⟨w0.heap.size,0,none⟩),.int .i64 n] V (WrP w0 acc' V):=by rw [e,hn];exact Qmn w0 V acc m h hm hl
theorem Qar (w0 V : World) (acc acc' x : T) (h : WrS w0 acc V) (hx : x.length ≤ 1000) (hl : acc.length ≤ 100000000000000) (e : acc' = acc ++ Qp x) : Calls Tryz.prog 44 #[.pointer (some ⟨w0.heap.size,0,none⟩),tv x] V (WrP w0 acc' V):=by rw [e];exact Qkv w0 V acc x h (by omega) hl
attribute [local irreducible] Calls in
set_option maxRecDepth 100000 in
set_option maxHeartbeats 4000000 in
theorem Qen (w0 V : World) (acc acc' : T) (b : Bool) (h : WrS w0 acc V) (hl : acc.length ≤ 100000000000000) (e : acc' = acc ++ dig (nB b)) : Calls Tryz.prog 89 #[.pointer (some ⟨w0.heap.size,0,none⟩),.bool b] V (WrP w0 acc' V):=by
 cases b
 ·have N1:=Qo0 (Yd w0 V acc acc' 0 0 h rfl (by omega) hl e)
  clear h e
  go_enter Tryz.func89,Tryz.ntmps89
  go_wp2_with (go_at_call 43;refine (N1.out).mono ?_;rintro e w1 ⟨rfl,r1,r2⟩;have R1:=Qo0 r1;have R2:=Qo0 r2;clear r1 r2)
  go_end0
  exact ⟨rfl,R1.out,R2.out⟩
 ·have N1:=Qo0 (Yd w0 V acc acc' 1 1 h rfl (by omega) hl e)
  clear h e
  go_enter Tryz.func89,Tryz.ntmps89
  go_wp2_with (go_at_call 43;refine (N1.out).mono ?_;rintro e w1 ⟨rfl,r1,r2⟩;have R1:=Qo0 r1;have R2:=Qo0 r2;clear r1 r2)
  go_end0
  exact ⟨rfl,R1.out,R2.out⟩
theorem Qa3 (l m : List PE) : Z7 (l ++ m) = Z7 l ++ Z7 m:=by
 induction l with
 | nil => simp
 | cons x l ih => simp [ih]
theorem Ql5 {L : List Ex} {j : Nat} {y : Ex} (h : L[j]? = some y) : Z7 ((L.take (j + 1)).map Ex.er) = Z7 ((L.take j).map Ex.er) ++ enX y.er:=by
 rw [List.take_add_one,h]
 simp [Qa3]
theorem Ql6 (L : List Ex) (j : Nat) : (Z7 ((L.take j).map Ex.er)).length ≤ (Z7 (L.map Ex.er)).length:=by
 conv => rhs;rw [← List.take_append_drop j L,List.map_append,Qa3,List.length_append]
 omega
attribute [local irreducible] Calls in
set_option maxRecDepth 100000 in
set_option maxHeartbeats 4000000 in
theorem Qkw : ∀ (d : Nat) (x : Ex) (w0 V : World) (acc : T),XIn d x.er → x.Rd w0 → WrS w0 acc V → acc.length + (enX x.er).length ≤ 100000000000000 → Calls Tryz.prog 90 #[.pointer (some ⟨w0.heap.size,0,none⟩),x.v] V (WrP w0 (acc ++ enX x.er) V):=by
 intro d
 induction d with
 | zero => intro x w0 V acc h;exact absurd h (by simp [XIn])
 | succ d ih =>
 intro x w0 V acc hX hr h hl
 obtain ⟨hk,hsub⟩:=hX
 rw [Yn,Ym] at hsub
 have hs:=hr.s
 obtain ⟨k,nm,mr,i,dn,Ai,ci,L⟩:=x
 unfold Ex.v
 have sk0:=hk.k0
 have sk1:=hk.k1
 have snm:=hk.n
 have smr:=hk.m
 have si0:=hk.i0
 have si1:=hk.i1
 have sd0:=hk.d0
 have sd1:=hk.d1
 have sn:=hk.s
 rw [Zk] at sk0 sk1
 rw [Yb] at snm
 rw [Xa] at smr
 rw [Qfz] at si0 si1
 rw [Qf0] at sd0 sd1
 rw [Yn,Ym,List.length_map] at sn
 have hE : enX (Ex.mk k nm mr i dn Ai ci L).er = dig k.toNat ++ (Qp nm ++ (Qp mr ++ (dig (cA i) ++ (dig dn.toNat ++ (dig L.length ++ Z7 (L.map Ex.er)))))):=by
  rw [Qf1]
  unfold Qdw
  rw [Zk,Yb,Xa,Qfz,Qf0,Yn,Ym,List.length_map]
  simp only [Ex.kind,Ex.name,Ex.more,Ex.int,Ex.den,Ex.sub,List.append_assoc]
 rw [hE] at hl ⊢
 clear hE hk hr
 simp only [Ex.kind,Ex.name,Ex.more,Ex.int,Ex.den,Ex.sub,Ex.A,Ex.c] at sk0 sk1 snm smr si0 si1 sd0 sd1 sn hs hsub ⊢
 have sca:=cA_le si0 si1
 obtain ⟨n,hn⟩ : ∃ n,L.length = n:=⟨_,rfl⟩
 obtain ⟨a1,ha1⟩ : ∃ a,a = acc ++ dig k.toNat:=⟨_,rfl⟩
 obtain ⟨a2,ha2⟩ : ∃ a,a = a1 ++ Qp nm:=⟨_,rfl⟩
 obtain ⟨a3,ha3⟩ : ∃ a,a = a2 ++ Qp mr:=⟨_,rfl⟩
 obtain ⟨a4,ha4⟩ : ∃ a,a = a3 ++ dig (cA i):=⟨_,rfl⟩
 obtain ⟨a5,ha5⟩ : ∃ a,a = a4 ++ dig dn.toNat:=⟨_,rfl⟩
 obtain ⟨a6,ha6⟩ : ∃ a,a = a5 ++ dig n:=⟨_,rfl⟩
 rw [hn] at sn
 have HFIN:=Qo0 (show a6 ++ Z7 (L.map Ex.er) = acc ++ (dig k.toNat ++ (Qp nm ++ (Qp mr ++ (dig (cA i) ++ (dig dn.toNat ++ (dig L.length ++ Z7 (L.map Ex.er))))))) from by
  rw [ha6,ha5,ha4,ha3,ha2,ha1,hn]
  simp only [List.append_assoc])
 have hlen : a6.length + (Z7 (L.map Ex.er)).length ≤ 100000000000000:=by
  have h1:=congrArg List.length HFIN.out
  rw [List.length_append] at h1
  rw [h1,List.length_append]
  exact hl
 have l1 : acc.length ≤ a1.length:=by rw [ha1];simp
 have l2 : a1.length ≤ a2.length:=by rw [ha2];simp
 have l3 : a2.length ≤ a3.length:=by rw [ha3];simp
 have l4 : a3.length ≤ a4.length:=by rw [ha4];simp
 have l5 : a4.length ≤ a5.length:=by rw [ha5];simp
 have l6 : a5.length ≤ a6.length:=by rw [ha6];simp
 rw [← HFIN.out,hn]
 have N1:=Qo0 (fun V' (h' : WrS w0 acc V') => Yd w0 V' acc a1 k k.toNat h' (by omega) (by omega) (by omega) ha1)
 have N2:=Qo0 (fun V' (h' : WrS w0 a1 V') => Qar w0 V' a1 a2 nm h' snm (by omega) ha2)
 have N3:=Qo0 (fun V' (h' : WrS w0 a2 V') => Qar w0 V' a2 a3 mr h' smr (by omega) ha3)
 have N4:=Qo0 (fun V' (z : Int) (hz : z = (cA i : Nat)) (h' : WrS w0 a3 V') => Yd w0 V' a3 a4 z (cA i) h' hz (by omega) (by omega) ha4)
 have N5:=Qo0 (fun V' (h' : WrS w0 a4 V') => Yd w0 V' a4 a5 dn dn.toNat h' (by omega) (by omega) (by omega) ha5)
 have N6:=Qo0 (fun V' (h' : WrS w0 a5 V') => Yd w0 V' a5 a6 n n h' rfl (by omega) (by omega) ha6)
 have IH:=Qo0 (fun V' (a : T) (y : Ex) (hy : y ∈ L) (h' : WrS w0 a V') (hl' : a.length + (enX y.er).length ≤ 100000000000000) => ih y w0 V' a (hsub _ (List.mem_map_of_mem hy)) (hs.hs y hy) h' hl')
 have HR:=Qo0 hs
 have HN:=Qo0 hn
 have HL:=Qo0 hlen
 have H0:=Qo0 (h.go (Qa V (.cells #[.int .i64 k,tv nm,tv mr,.int .i64 i,.int .i64 dn,.slice Ai n ci] 43)))
 have GV:=Qo0 (Qa V (.cells #[.int .i64 k,tv nm,tv mr,.int .i64 i,.int .i64 dn,.slice Ai n ci] 43))
 have HX:=Qo0 (Qd V (.cells #[.int .i64 k,tv nm,tv mr,.int .i64 i,.int .i64 dn,.slice Ai n ci] 43))
 have HK:=Qo0 h.lt
 have CA1 : i < 0 → (cA i : Int) = -2 * i + 1:=by intro h0;unfold cA;rw [if_pos h0];omega
 have CA2 : ¬ i < 0 → (cA i : Int) = 2 * i:=by intro h0;unfold cA;rw [if_neg h0];omega
 clear h hs hn ha1 ha2 ha3 ha4 ha5 ha6 hl hlen hsub ih l1 l2 l3 l4 l5 l6 sca
 obtain ⟨kb,hkb⟩ : ∃ k,V.heap.size = k:=⟨_,rfl⟩
 go_enter Tryz.func90,Tryz.ntmps90
 go_upto_region 1 with fail
 rw [hkb] at HX HK
 generalize V.alloc (.cells #[.int .i64 k,tv nm,tv mr,.int .i64 i,.int .i64 dn,.slice Ai n ci] 43) = V0 at *
 have BX:=Qo0 (fun V' (k' : OK5 w0 V0 V') => (show V'.cell? ⟨kb,0,none⟩ = some (.int .i64 k) ∧ V'.cell? ⟨kb,1,none⟩ = some (tv nm) ∧ V'.cell? ⟨kb,2,none⟩ = some (tv mr) ∧ V'.cell? ⟨kb,3,none⟩ = some (.int .i64 i) ∧ V'.cell? ⟨kb,4,none⟩ = some (.int .i64 dn) ∧ V'.cell? ⟨kb,5,none⟩ = some (.slice Ai n ci) from by
  have h2:=ok5_h k' (by decide) (by have:=HK.out;omega) HX.out
  exact ⟨by rw [Lib.cell_of_heap h2];rfl,by rw [Lib.cell_of_heap h2];rfl,by rw [Lib.cell_of_heap h2];rfl,by rw [Lib.cell_of_heap h2];rfl,by rw [Lib.cell_of_heap h2];rfl,by rw [Lib.cell_of_heap h2];rfl⟩))
 obtain ⟨b0,b1,b2,b3,b4,b5⟩:=BX.out V0 (Lib.OthersKept.refl _ _ _)
 go_upto_region 2 with (go_at_call 43;refine (N1.out _ H0.out).mono ?_;rintro e V1 ⟨rfl,r1,k1⟩;have R1:=Qo0 r1;have K1:=Qo0 k1;clear r1 k1)
 clear b0 b1 b2 b3 b4 b5
 obtain ⟨b0,b1,b2,b3,b4,b5⟩:=BX.out V1 K1.out
 go_upto_region 3 with (go_at_call 44;refine (N2.out _ R1.out).mono ?_;rintro e V2 ⟨rfl,r2,k2⟩;have R2:=Qo0 r2;have K2:=Qo0 (K1.out.trans k2);clear r2 k2)
 clear b0 b1 b2 b3 b4 b5
 obtain ⟨b0,b1,b2,b3,b4,b5⟩:=BX.out V2 K2.out
 go_upto_region 4 with (go_at_call 44;refine (N3.out _ R2.out).mono ?_;rintro e V3 ⟨rfl,r3,k3⟩;have R3:=Qo0 r3;have K3:=Qo0 (K2.out.trans k3);clear r3 k3)
 clear b0 b1 b2 b3 b4 b5
 obtain ⟨b0,b1,b2,b3,b4,b5⟩:=BX.out V3 K3.out
 have hca : (cA i : Int) = if i < 0 then -2 * i + 1 else 2 * i:=by
  by_cases h9 : i < 0
  ·rw [if_pos h9];exact CA1 h9
  ·rw [if_neg h9];exact CA2 (by omega)
 by_cases hi : i < 0
 all_goals
  first | rw [if_pos hi] at hca | rw [if_neg hi] at hca
  go_upto_region 7 with (go_at_call 43;refine (N4.out _ _ (by omega) R3.out).mono ?_;rintro e V4 ⟨rfl,r4,k4⟩;have R4:=Qo0 r4;have K4:=Qo0 (K3.out.trans k4);clear r4 k4)
  clear b0 b1 b2 b3 b4 b5
  obtain ⟨b0,b1,b2,b3,b4,b5⟩:=BX.out V4 K4.out
  go_upto_region 8 with (go_at_call 43;refine (N5.out _ R4.out).mono ?_;rintro e V5 ⟨rfl,r5,k5⟩;have R5:=Qo0 r5;have K5:=Qo0 (K4.out.trans k5);clear r5 k5)
  clear b0 b1 b2 b3 b4 b5
  obtain ⟨b0,b1,b2,b3,b4,b5⟩:=BX.out V5 K5.out
  go_upto_region 9 with (go_at_call 43;refine (N6.out _ R5.out).mono ?_;rintro e V6 ⟨rfl,r6,k6⟩;have R6:=Qo0 r6;have K6:=Qo0 (K5.out.trans k6);clear r6 k6)
  clear b0 b1 b2 b3 b4 b5
  obtain ⟨b0,b1,b2,b3,b4,b5⟩:=BX.out V6 K6.out
  go_wp2
  clear b0 b1 b2 b3 b4 b5
  go_loopw [44] (fun u V' => ∃ (j : Nat),j ≤ n ∧ u = .int .i64 j ∧ Hid (WrS w0 (a6 ++ Z7 ((L.take j).map Ex.er)) V' ∧ OK5 w0 V0 V')) (fun u _ => n - (intOf u).toNat)
  case atStart => exact ⟨0,Nat.zero_le _,rfl,Qo0 ⟨by simpa using R6.out,K6.out⟩⟩
  case round =>
   obtain ⟨j,hj,rfl,HW⟩:=hrel
   by_cases hlt : j < n
   ·obtain ⟨y,hy⟩ : ∃ y,L[j]? = some y:=⟨_,List.getElem?_eq_getElem (by rw [HN.out];exact hlt)⟩
    obtain ⟨ab,p1,hA,hb1,hbb,i0,i1,i2,i3,i4,i5,-⟩:=(HR.out.gr HW.out.1.gr).at (k:=j) (by rw [HN.out];exact hlt)
    have hyi : L[j]'(by rw [HN.out];exact hlt) = y:=by rw [List.getElem?_eq_getElem (by rw [HN.out];exact hlt)] at hy;exact Option.some.inj hy
    rw [hyi] at i0 i1 i2 i3 i4 i5
    have hym:=List.mem_of_getElem? hy
    have hta:=Ql5 hy
    have hpl : (a6 ++ Z7 ((L.take j).map Ex.er)).length + (enX y.er).length ≤ 100000000000000:=by
     have q:=Ql6 L (j + 1)
     rw [hta,List.length_append] at q
     have:=HL.out
     rw [List.length_append];omega
    have CALL:=Qo0 (fun V' (h' : WrS w0 (a6 ++ Z7 ((L.take j).map Ex.er)) V') => show Calls Tryz.prog 90 #[.pointer (some ⟨w0.heap.size,0,none⟩),.agg #[.int .i64 y.kind,tv y.name,tv y.more,.int .i64 y.int,.int .i64 y.den,.slice y.A y.sub.length y.c]] V' (WrP w0 (a6 ++ Z7 ((L.take (j + 1)).map Ex.er)) V') from by
     rw [hta,← List.append_assoc]
     exact IH.out V' _ y hym h' hpl)
    subst hA
    clear hyi hy hym hta hpl
    go_upto_region 12 with fail
    have GB:=Qo0 (Qa wr (.cells #[.int .i64 y.kind,tv y.name,tv y.more,.int .i64 y.int,.int .i64 y.den,.slice y.A y.sub.length y.c] 43))
    go_wp2_with (go_at_call 90;refine (CALL.out _ (HW.out.1.go GB.out)).mono ?_;rintro e W2 ⟨rfl,r,k2⟩;have S2:=Qo0 r;have J2:=Qo0 k2;clear r k2)
    exact ⟨⟨j + 1,by omega,by simp,Qo0 ⟨S2.out,HW.out.2.trans ((Qfn GB.out).trans J2.out)⟩⟩,by simp [intOf];omega⟩
   ·obtain rfl : n = j:=by omega
    go_wp2
    go_end0
    refine ⟨rfl,?_,(Qfn GV.out).trans HW.out.2⟩
    have h2:=HW.out.1
    rw [List.take_of_length_le (Nat.le_of_eq HN.out)] at h2
    exact h2
end Go.Proofs.YtiaenhlflgobfaaGreatDoor
