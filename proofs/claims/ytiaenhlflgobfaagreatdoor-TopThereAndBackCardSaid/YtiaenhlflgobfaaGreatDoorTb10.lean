/- Walks and words: LabA, LabB, Idx, LabC, LabD. -/
import Derived.Test.YtiaenhlflgobfaaGreatDoorTb2
import Derived.Test.YtiaenhlflgobfaaGreatDoorTb7
import Derived.Laws.RangeString
import Derived.Laws.RangeAny
import Derived.Lib.Bytealg
import Derived.Laws.Externs
import Derived.RangeFuncNested
import Derived.RangeFuncBound
import Derived.RangeFuncCalls
import Derived.RangeFuncLeaves
import Derived.Shelf.Abstract
import Derived.Shelf.RegionOpen
import Derived.WalkKit
import Derived.OwnWalkIn
import Derived.TacticsInMore
import Derived.LoopNIn
import Derived.LoopIn
import Derived.Lib.Builder
namespace Go.Proofs.YtiaenhlflgobfaaGreatDoor
open Go.RowKit
set_option maxRecDepth 100000 in
theorem Qdp (c : Int) (w : World) : Calls Tryz.prog 177 #[.int .i32 c] w fun e w' => e = .returned (.bool (isL c)) ∧ w' = w:=by
 unfold isL
 cases h : decide (97 ≤ c) with
 | false => go_enter Tryz.func177,Tryz.ntmps177;go_wp2;go_ret;exact ⟨rfl,rfl⟩
 | true => go_enter Tryz.func177,Tryz.ntmps177;go_wp2;go_ret;exact ⟨rfl,rfl⟩
set_option maxRecDepth 100000 in
theorem Qe3 (c : Int) (w : World) : Calls Tryz.prog 178 #[.int .i32 c] w fun e w' => e = .returned (.bool (isD c)) ∧ w' = w:=by
 unfold isD
 cases h : decide (48 ≤ c) with
 | false => go_enter Tryz.func178,Tryz.ntmps178;go_wp2;go_ret;exact ⟨rfl,rfl⟩
 | true => go_enter Tryz.func178,Tryz.ntmps178;go_wp2;go_ret;exact ⟨rfl,rfl⟩
theorem wd_bad {s : T} {k : Nat} (hk : k < s.length) (h : (bL s[k] || bD s[k]) = false) : wd s = false:=by
 unfold wd
 rw [Bool.and_eq_false_iff]
 right
 rw [List.all_eq_false]
 exact ⟨s[k],List.getElem_mem hk,by simp [h]⟩
theorem Qmo {s : T} (hk : 0 < s.length) (h : bL s[0] = false) : wd s = false:=by
 cases s with
 | nil => simp at hk
 | cons c r => simp at h;simp [wd,h]
theorem wd_good {s : T} (hk : 0 < s.length) (h : bL s[0] = true) (ha : ∀ c ∈ s,(bL c || bD c) = true) : wd s = true:=by
 cases s with
 | nil => simp at hk
 | cons c r =>
   unfold wd
   simp at h
   rw [Bool.and_eq_true,List.all_eq_true]
   exact ⟨h,ha⟩
theorem Qhb {n : Nat} (h : 128 ≤ n) : isL (n : Int) = false ∧ isD (n : Int) = false:=by
 unfold isL isD
 constructor
 ·have : decide ((n : Int) ≤ 122) = false:=by simp;omega
  rw [this,Bool.and_false]
 ·have : decide ((n : Int) ≤ 57) = false:=by simp;omega
  rw [this,Bool.and_false]
theorem Qow {s : T} {k : Nat} (hk : k < s.length) (h : ∀ c ∈ s.take k,(bL c || bD c) = true) (h' : (bL s[k] || bD s[k]) = true) : ∀ c ∈ s.take (k + 1),(bL c || bD c) = true:=by
 intro c hc
 rw [List.take_succ_eq_append_getElem hk,List.mem_append,List.mem_singleton] at hc
 rcases hc with hc | rfl
 ·exact h c hc
 ·exact h'
set_option maxRecDepth 100000 in
set_option maxHeartbeats 2000000 in
theorem Qgi (s : T) (w : World) (hs : s.length ≤ 9223372036854775807) : Calls Tryz.prog 131 #[tv s] w fun e w' => e = .returned (.bool (wd s && decide (s.length ≤ 24))) ∧ Below w.heap.size w w':=by
 have hsz : (ByteArray.mk s.toArray).size = s.length:=by simp [ByteArray.size]
 by_cases h0 : s = []
 ·subst h0
  have e0 : (wd [] && decide (([] : T).length ≤ 24)) = false:=rfl
  rw [e0]
  go_enter Tryz.func131,Tryz.ntmps131
  go_wp2
  go_ret
  exact ⟨rfl,Below.refl _ _⟩
 by_cases h24 : 24 < s.length
 ·have e0 : (wd s && decide (s.length ≤ 24)) = false:=by
   have : decide (s.length ≤ 24) = false:=by simp;omega
   rw [this,Bool.and_false]
  rw [e0]
  have t1 : (s == []) = false:=by simpa using h0
  have t2 : (24 : Int) < (s.length : Int):=by omega
  clear e0 h0
  go_enter Tryz.func131,Tryz.ntmps131
  go_wp2
  all_goals (go_ret;exact ⟨rfl,Below.refl _ _⟩)
 ·have e0 : (wd s && decide (s.length ≤ 24)) = wd s:=by
   have : decide (s.length ≤ 24) = true:=by simp;omega
   rw [this,Bool.and_true]
  rw [e0]
  have hpos : 0 < s.length:=List.length_pos_iff.2 h0
  have t1 : (s == []) = false:=by simpa using h0
  have t2 : decide ((24 : Int) < (s.length : Int)) = false:=by simp;omega
  have HSZ:=Qo0 hsz
  clear e0 h0 hsz
  go_enter Tryz.func131,Tryz.ntmps131
  go_wp2
  go_loopw [3,4] (fun _ _ wr => ∃ k : Nat,k ≤ s.length ∧ wr = w.iter ⟨s.toArray⟩ k ∧ Hid (∀ c ∈ s.take k,(bL c || bD c) = true) ∧ Hid (0 < k → bL s[0] = true)) (fun _ _ wr => s.length - wr.iterPos w.heap.size)
  case atStart => exact ⟨0,Nat.zero_le _,rfl,by simp [Hid],Qo0 (fun h => by omega)⟩
  case round =>
   obtain ⟨k,hk,rfl,HA,HF⟩:=hrel
   have bel : ∀ j,Below w.heap.size w (w.iter ⟨s.toArray⟩ j):=fun j => (Below.refl _ _).alloc (Nat.le_refl _) _
   have BEL:=Qo0 bel
   clear bel
   by_cases hlt : k < s.length
   ·have hi : k < (ByteArray.mk s.toArray).size:=by rw [HSZ.out];exact hlt
    have hd : (ByteArray.mk s.toArray)[k]'hi = s[k]:=rfl
    by_cases ha : s[k].toNat < 128
    ·have hnx:=fun ty => run_next_ascii (P:=Tryz.prog) w ⟨s.toArray⟩ k ty hi (by rw [hd];exact ha)
     rw [hd] at hnx
     have LE:=fun W => Qdp (s[k].toNat : Int) W
     have DI:=fun W => Qe3 (s[k].toNat : Int) W
     have HLE:=Qo0 LE
     have HDI:=Qo0 DI
     have N1:=fun h => Qo0 (Qow hlt HA.out h)
     have W1 : Hid ((bL s[k] || bD s[k]) = false → wd s = false):=Qo0 (wd_bad hlt)
     have W2 : Hid (k = 0 → bL s[k] = false → wd s = false):=Qo0 (fun e h => by subst e;exact Qmo hlt h)
     have F1 : Hid (bL s[k] = true → 0 < k + 1 → bL s[0] = true):=Qo0 (fun h _ => by
      by_cases e : k = 0
      ·subst e;exact h
      ·exact HF.out (by omega))
     have F2 : Hid (k ≠ 0 → 0 < k + 1 → bL s[0] = true):=Qo0 (fun e _ => HF.out (by omega))
     unfold bL bD at N1 W1
     unfold bL at W2 F1
     clear LE DI HA HF hd ha
     generalize (s[k].toNat : Int) = c at *
     cases hl : isL c with
     | true =>
       rw [hl] at HLE
       have HN:=N1 (by rw [hl];rfl)
       have HF':=Qo0 (F1.out hl)
       clear N1 W1 W2 F1 F2 hl
       go_wp2_with (go_at_call 177;refine (HLE.out _).mono ?_;rintro e w1 ⟨rfl,rfl⟩)
       go_roundw
       case rel => exact ⟨k + 1,by omega,rfl,HN,HF'⟩
       case measure => simp;omega
     | false =>
       rw [hl] at HLE
       by_cases hk0 : k = 0
       ·have HW:=Qo0 (W2.out hk0 hl)
        subst hk0
        clear N1 W1 W2 F1 F2 hl
        go_wp2_with (first | (go_at_call 177;refine (HLE.out _).mono ?_;rintro e w1 ⟨rfl,rfl⟩) | (go_at_call 178;refine (HDI.out _).mono ?_;rintro e w1 ⟨rfl,rfl⟩))
        go_ret
        exact ⟨by rw [HW.out];rfl,BEL.out _⟩
       ·have tk : ((k : Int) == 0) = false:=by simp;omega
        cases hdg : isD c with
        | true =>
          rw [hdg] at HDI
          have HN:=N1 (by rw [hl,hdg];rfl)
          have HF':=Qo0 (F2.out hk0)
          clear N1 W1 W2 F1 F2 hl hdg hk0
          go_wp2_with (first | (go_at_call 177;refine (HLE.out _).mono ?_;rintro e w1 ⟨rfl,rfl⟩) | (go_at_call 178;refine (HDI.out _).mono ?_;rintro e w1 ⟨rfl,rfl⟩))
          go_roundw
          case rel => exact ⟨k + 1,by omega,rfl,HN,HF'⟩
          case measure => simp;omega
        | false =>
          rw [hdg] at HDI
          have HW:=Qo0 (W1.out (by rw [hl,hdg];rfl))
          clear N1 W1 W2 F1 F2 hl hdg hk0
          go_wp2_with (first | (go_at_call 177;refine (HLE.out _).mono ?_;rintro e w1 ⟨rfl,rfl⟩) | (go_at_call 178;refine (HDI.out _).mono ?_;rintro e w1 ⟨rfl,rfl⟩))
          go_ret
          exact ⟨by rw [HW.out];rfl,BEL.out _⟩
    ·have hnx:=fun ty => run_next_any (P:=Tryz.prog) w ⟨s.toArray⟩ k ty hi
     obtain ⟨hh1,-⟩:=decode_high ⟨s.toArray⟩ k hi (by rw [hd];omega)
     obtain ⟨q1,q2⟩:=Qhb hh1
     have LE:=fun W => Qdp ((Utf8.decode ⟨s.toArray⟩ k).1 : Int) W
     have DI:=fun W => Qe3 ((Utf8.decode ⟨s.toArray⟩ k).1 : Int) W
     rw [q1] at LE
     rw [q2] at DI
     have HLE:=Qo0 LE
     have HDI:=Qo0 DI
     have hw : wd s = false:=wd_bad hlt (by
      unfold bL bD
      obtain ⟨q3,q4⟩:=Qhb (n:=s[k].toNat) (by omega)
      rw [q3,q4];rfl)
     have HW:=Qo0 hw
     generalize (Utf8.decode ⟨s.toArray⟩ k).1 = c at *
     generalize (Utf8.decode ⟨s.toArray⟩ k).2 = m at *
     clear LE DI q1 q2 hw HA HF hd ha
     by_cases hk0 : k = 0
     ·subst hk0
      go_wp2_with (first | (go_at_call 177;refine (HLE.out _).mono ?_;rintro e w1 ⟨rfl,rfl⟩) | (go_at_call 178;refine (HDI.out _).mono ?_;rintro e w1 ⟨rfl,rfl⟩))
      go_ret
      exact ⟨by rw [HW.out];rfl,BEL.out _⟩
     ·have tk : ((k : Int) == 0) = false:=by simp;omega
      go_wp2_with (first | (go_at_call 177;refine (HLE.out _).mono ?_;rintro e w1 ⟨rfl,rfl⟩) | (go_at_call 178;refine (HDI.out _).mono ?_;rintro e w1 ⟨rfl,rfl⟩))
      go_ret
      exact ⟨by rw [HW.out];rfl,BEL.out _⟩
   ·have hnx:=fun ty => run_next_end (P:=Tryz.prog) w ⟨s.toArray⟩ k ty (by rw [HSZ.out];exact hlt)
    have hw : wd s = true:=wd_good hpos (HF.out (by omega)) (fun c hc => HA.out c (by rw [List.take_of_length_le (by omega)];exact hc))
    have HW:=Qo0 hw
    clear hw
    go_wp2
    go_ret
    exact ⟨by rw [HW.out];rfl,BEL.out _⟩
end Go.Proofs.YtiaenhlflgobfaaGreatDoor
namespace Go.Proofs.YtiaenhlflgobfaaGreatDoor
open Go.RowKit
theorem Qob (l : T) (n : Nat) : (⟨l.toArray⟩ : ByteArray).extract 0 n = ⟨(l.take n).toArray⟩:=by
 apply ByteArray.ext
 simp [ByteArray.data_extract]
theorem Qhi (l : T) (a : Nat) : (⟨l.toArray⟩ : ByteArray).extract a l.length = ⟨(l.drop a).toArray⟩:=by
 apply ByteArray.ext
 simp [ByteArray.data_extract,List.take_of_length_le]
def lenOf : Value → Nat | .string s => s.size | _ => 0
theorem Qno {s : T} (h : Zr s < s.length) : Qah s = (Qb1 (s.take (Zr s)) && Qah (s.drop (Zr s + 1))):=by rw [Qah,dif_pos h]
theorem Qnn {s : T} (h : ¬ Zr s < s.length) : Qah s = Qb1 s:=by rw [Qah,dif_neg h]
end Go.Proofs.YtiaenhlflgobfaaGreatDoor
namespace Go.Proofs.YtiaenhlflgobfaaGreatDoor
open Go.RowKit
theorem r99 (s : ByteArray) (c : Int) (w : World) : (callFunc 290 #[.string s,.int .u8 c]).run Tryz.prog w = .ok (.value (.int .i64 (Lib.indexByte s.data.toList c.toNat.toUInt8))) w:=by
 rw [run_callFunc_extern Tryz.func290 (by kernel_rfl) (by kernel_rfl) (by kernel_rfl) (e:=Extern.BytealgIndexByte.indexByte) (by kernel_rfl),Lib.run_indexByteString]
 rfl
set_option maxRecDepth 100000 in
theorem Qed (s : ByteArray) (c : Int) (w : World) : Calls Tryz.prog 279 #[.string s,.int .u8 c] w fun e w' => e = .returned (.int .i64 (Lib.indexByte s.data.toList c.toNat.toUInt8)) ∧ w' = w:=by
 have h:=r99 s c w
 go_enter Tryz.func279,Tryz.ntmps279
 go_wp2
 go_ret
 exact ⟨rfl,rfl⟩
set_option maxRecDepth 100000 in
theorem Qil (s : ByteArray) (c : UInt8) (w : World) : Calls Tryz.prog 253 #[.string s,.string ⟨#[c]⟩] w fun e w' => e = .returned (.int .i64 (Lib.indexByte s.data.toList c)) ∧ w' = w:=by
 have h:=Qed s (c.toNat : Int) w
 have hc : ((c.toNat : Int).toNat.toUInt8) = c:=by simp
 rw [hc] at h
 have HI:=Qo0 h
 clear h hc
 cases hs : ([c] == s.toList) with
 | true =>
   have e0 : Lib.indexByte s.data.toList c = 0:=by
    have h1 : [c] = s.toList:=by simpa using hs
    rw [← ByteArray.toList_eq,← h1]
    simp [Lib.indexByte]
   rw [e0]
   go_enter Tryz.func253,Tryz.ntmps253
   go_wp2
   go_ret
   exact ⟨rfl,rfl⟩
 | false =>
   go_enter Tryz.func253,Tryz.ntmps253
   go_wp2_with (go_at_call 279;refine HI.out.mono ?_;rintro e w1 ⟨rfl,rfl⟩)
   go_ret
   exact ⟨rfl,rfl⟩
set_option maxRecDepth 100000 in
theorem Qbk (s : ByteArray) (c : UInt8) (w : World) : Calls Tryz.prog 209 #[.string s,.string ⟨#[c]⟩] w fun e w' => e = .returned (.int .i64 (Lib.indexByte s.data.toList c)) ∧ w' = w:=by
 have HI:=Qo0 (Qil s c w)
 go_enter Tryz.func209,Tryz.ntmps209
 go_wp2_with (go_at_call 253;refine HI.out.mono ?_;rintro e w1 ⟨rfl,rfl⟩)
 go_ret
 exact ⟨rfl,rfl⟩
set_option maxRecDepth 100000 in
theorem Qei (s : ByteArray) (c : UInt8) (w : World) : Calls Tryz.prog 213 #[.string s,.string ⟨#[c]⟩] w fun e w' => e = .returned (.bool (decide (0 ≤ Lib.indexByte s.data.toList c))) ∧ w' = w:=by
 have HI:=Qo0 (Qbk s c w)
 generalize Lib.indexByte s.data.toList c = k at *
 go_enter Tryz.func213,Tryz.ntmps213
 go_wp2_with (go_at_call 209;refine HI.out.mono ?_;rintro e w1 ⟨rfl,rfl⟩)
 go_ret
 exact ⟨rfl,rfl⟩
end Go.Proofs.YtiaenhlflgobfaaGreatDoor
namespace Go.Proofs.YtiaenhlflgobfaaGreatDoor
open Go.RowKit Go.Shelf
attribute [local go_sem] Oper.semAt_some
theorem Qev : ∀ q : T,Lib.indexByte q 47 = if Zr q < q.length then (Zr q : Int) else -1
 | [] => by simp [Lib.indexByte,Zr]
 | c :: q => by
   have ih:=Qev q
   by_cases h : c = 47
   ·subst h
    simp [Lib.indexByte,Zr]
   ·have e1 : Zr (c :: q) = Zr q + 1:=by
     unfold Zr
     have : (c != 47) = true:=by simpa using h
     simp [this]
    have e2 : (c == 47) = false:=by simpa using h
    have e3 : (c :: q).length = q.length + 1:=rfl
    rw [e1,e3,Lib.indexByte,e2,ih]
    by_cases h2 : Zr q < q.length
    ·have a1 : (if Zr q < q.length then (Zr q : Int) else -1) = Zr q:=if_pos h2
     have a2 : (if Zr q + 1 < q.length + 1 then ((Zr q + 1 : Nat) : Int) else -1) = ((Zr q + 1 : Nat) : Int):=if_pos (by omega)
     have a3 : ((Zr q : Int) == -1) = false:=by rw [beq_eq_false_iff_ne];omega
     rw [a1,a2,a3]
     simp
    ·have a1 : (if Zr q < q.length then (Zr q : Int) else -1) = -1:=if_neg h2
     have a2 : (if Zr q + 1 < q.length + 1 then ((Zr q + 1 : Nat) : Int) else -1) = -1:=if_neg (by omega)
     rw [a1,a2]
     rfl
def Qck (b : Bool) (J Js : World → Prop) (W : World) : Prop:=if b = true then J W else Js W
theorem Qck.yes {b : Bool} {J Js : World → Prop} {W : World} (h : Qck b J Js W) (hb : b = true) : J W:=by unfold Qck at h;rwa [if_pos hb] at h
theorem Qck.no {b : Bool} {J Js : World → Prop} {W : World} (h : Qck b J Js W) (hb : b = false) : Js W:=by unfold Qck at h;rwa [if_neg (by simp [hb])] at h
theorem Qfx {b : Bool} {J Js : World → Prop} {W : World} (h : Js W) (hb : b = false) : Qck b J Js W:=by unfold Qck;rwa [if_neg (by simp [hb])]
theorem Qoa {b : Bool} {J Js : World → Prop} {W : World} (h : J W) (hb : b = true) : Qck b J Js W:=by unfold Qck;rwa [if_pos hb]
def lenAt (g : Nat) (W : World) : Nat :=
 match W.cell? ⟨g,0,none⟩ with
 | some v => lenOf v
 | _ => 0
theorem Qg4 {g : Nat} {W : World} {q : T} (h : W.heap[g]? = some (.cells #[tv q] 9 (0,0))) : lenAt g W = q.length:=by
 have:=Lib.cell_of_heap h 0
 simp [lenAt,this,lenOf,ByteArray.size]
set_option maxRecDepth 100000 in
set_option maxHeartbeats 4000000 in
theorem Qmt (n : Nat) (hn : 1 ≤ n) (l g gp gz : Nat) (hgp : gp ≠ g) (hgz : gz ≠ g) (J Js : World → Prop)
 (hJ : ∀ A u,J A → J (A.setCell ⟨g,0,none⟩ u))
 (hY : ∀ (x : T) W,J W → x.length ≤ 90 → YieldAt Fence.wide (n - 1) Tryz.prog l #[tv x] W fun e W' => e = .returned (.bool (Qb1 x)) ∧ Qck (Qb1 x) J Js W' ∧ W'.heap[g]? = W.heap[g]? ∧ W'.heap[gp]? = W.heap[gp]? ∧ W'.heap[gz]? = W.heap[gz]?)
 (s : T) (hs : s.length ≤ 90) (W : World) (hg : W.heap[g]? = some (.cells #[tv s] 9 (0,0))) (hp : W.heap[gp]? = some (.cells #[.string ⟨#[47]⟩] 9 (0,0))) (hz : W.heap[gz]? = some (.cells #[.int .i64 0] 3 (0,0))) (h0 : J W) :
 CallsIn Fence.wide n Tryz.prog 207 #[.func (.yield l) #[] #[],.pointer (some ⟨gp,0,none⟩),.pointer (some ⟨g,0,none⟩),.pointer (some ⟨gz,0,none⟩)] W fun e W' => (∃ r,e = .returned r) ∧ Qck (Qah s) J Js W':=by
 have cp:=Lib.cell_of_heap hp 0
 simp only [List.getElem?_toArray,List.getElem?_cons_zero] at cp
 refine callsIn_of_wp Tryz.func207 rfl trivial ?_ rfl
 simp only [Tryz.ntmps207,List.size_toArray,List.length_cons,List.length_nil,Nat.reduceAdd,Nat.reduceSub,Array.replicate_succ,Array.replicate_zero,List.push_toArray,List.append_toArray,List.nil_append,List.cons_append]
 gi_wp2
 clear cp
 gi_loopw [7,8] (fun _ _ wr => ∃ q : T,Hid (wr.heap[g]? = some (.cells #[tv q] 9 (0,0))) ∧ Hid (wr.heap[gp]? = some (.cells #[.string ⟨#[47]⟩] 9 (0,0))) ∧ Hid (wr.heap[gz]? = some (.cells #[.int .i64 0] 3 (0,0))) ∧ q.length ≤ 90 ∧ Hid (Qah s = Qah q) ∧ Hid (J wr)) (fun _ _ wr => lenAt g wr)
 case atStart => exact ⟨s,Qo0 hg,Qo0 hp,Qo0 hz,hs,Qo0 rfl,Qo0 h0⟩
 case round =>
  obtain ⟨q,hu,hp2,hz2,hq,EL,hJs⟩:=hrel
  have hc:=Lib.cell_of_heap hu.out 0
  have hf:=Lib.frozen_of_heap hu.out 0
  have cp:=Lib.cell_of_heap hp2.out 0
  have cz:=Lib.cell_of_heap hz2.out 0
  simp only [List.getElem?_toArray,List.getElem?_cons_zero] at hc cp cz
  have IX:=fun W => Qbk ⟨q.toArray⟩ 47 W
  have ei : Lib.indexByte (ByteArray.mk q.toArray).data.toList 47 = if Zr q < q.length then (Zr q : Int) else -1:=Qev q
  rw [ei] at IX
  clear ei
  by_cases h : Zr q < q.length
  ·rw [if_pos h] at IX
   have LQ : Hid (Qah s = (Qb1 (q.take (Zr q)) && Qah (q.drop (Zr q + 1)))):=Qo0 (by rw [EL.out,Qno h])
   have HIX:=Qo0 IX
   have e1:=Qob q (Zr q)
   have e2:=Qhi q (Zr q + 1)
   have l1 : (q.take (Zr q)).length ≤ 90:=by simp;omega
   have l2 : (q.drop (Zr q + 1)).length ≤ 90:=by simp;omega
   have l3 : Hid ((q.drop (Zr q + 1)).length < q.length):=Qo0 (by simp;omega)
   obtain ⟨fn,tmps,assign,body,hy,hR⟩:=hY (q.take (Zr q)) wr hJs.out l1
   obtain ⟨u,hu1⟩ : ∃ u,q.take (Zr q) = u:=⟨_,rfl⟩
   obtain ⟨v,hv1⟩ : ∃ v,q.drop (Zr q + 1) = v:=⟨_,rfl⟩
   rw [hu1] at e1 LQ hy hR
   rw [hv1] at e2 LQ l2 l3
   clear hu1 hv1 IX l1
   generalize Zr q = k at *
   have t1 : ¬ (k : Int) < 0:=by omega
   gi_wp2_with (refine ⟨trivial,?_⟩;gi_at_call 209;refine (callsIn_wide.2 (HIX.out _)).mono ?_;rintro e w1 ⟨rfl,rfl⟩)
   refine hR.mono ?_
   rintro e W3 ⟨rfl,hJ3,k1,k2,k3⟩
   cases hw : Qb1 u with
   | false =>
     have FN : Hid (Qck (Qah s) J Js W3):=Qo0 (Qfx (hJ3.no hw) (by rw [LQ.out,hw];rfl))
     clear hJ3 hw
     gi_wp2
     first | go_end0 | refine bodyPost_ret (results_none rfl _ _ _) rfl ?_
     exact ⟨⟨_,rfl⟩,FN.out⟩
   | true =>
     replace hJ3:=hJ3.yes hw
     have HL : Hid (Qah s = Qah v):=Qo0 (by rw [LQ.out,hw];rfl)
     have u3:=k1.trans hu.out
     have p3:=k2.trans hp2.out
     have z3:=k3.trans hz2.out
     have hc3:=Lib.cell_of_heap u3 0
     have hf3:=Lib.frozen_of_heap u3 0
     have cp3:=Lib.cell_of_heap p3 0
     simp only [List.getElem?_toArray,List.getElem?_cons_zero] at hc3 cp3
     have hn3 : Hid ((W3.setCell ⟨g,0,none⟩ (tv v)).heap[g]? = some (.cells #[tv v] 9 (0,0))):=Qo0 (by simp [World.setCell,Array.getElem?_modify,u3])
     have hp4 : Hid ((W3.setCell ⟨g,0,none⟩ (tv v)).heap[gp]? = some (.cells #[.string ⟨#[47]⟩] 9 (0,0))):=Qo0 ((Below.heap_setCell _ _ _ _ hgp).trans p3)
     have hz4 : Hid ((W3.setCell ⟨g,0,none⟩ (tv v)).heap[gz]? = some (.cells #[.int .i64 0] 3 (0,0))):=Qo0 ((Below.heap_setCell _ _ _ _ hgz).trans z3)
     have HJ4:=Qo0 (hJ _ (tv v) hJ3)
     have t5 : k ≤ 90:=by omega
     clear hJ3 hw k1 k2 k3 u3 p3 z3 hc cp cz hf
     gi_wp2
     go_roundw
     case rel => exact ⟨v,hn3,hp4,hz4,l2,HL,HJ4⟩
     case measure => rw [Qg4 hn3.out,Qg4 hu.out];exact l3.out
  ·rw [if_neg h] at IX
   have HIX:=Qo0 IX
   have LQ : Hid (Qah s = Qb1 q):=Qo0 (by rw [EL.out,Qnn h])
   obtain ⟨fn,tmps,assign,body,hy,hR⟩:=hY q wr hJs.out hq
   clear IX
   gi_wp2_with (refine ⟨trivial,?_⟩;gi_at_call 209;refine (callsIn_wide.2 (HIX.out _)).mono ?_;rintro e w1 ⟨rfl,rfl⟩)
   refine hR.mono ?_
   rintro e W3 ⟨rfl,hJ3,k1,k2,k3⟩
   have FN : Hid (Qck (Qah s) J Js W3):=Qo0 (by rw [LQ.out];exact hJ3)
   clear hJ3
   gi_wp2
   go_end0
   exact ⟨⟨_,rfl⟩,FN.out⟩
end Go.Proofs.YtiaenhlflgobfaaGreatDoor
namespace Go.Proofs.YtiaenhlflgobfaaGreatDoor
open Go.RowKit Go.Shelf
attribute [local go_sem] Oper.semAt_some
theorem Xz {P : Program} {n : Nat} {g : Operand} {ps : Array Tmp} {assign body : Code} {Q : Exit → Act → World → Prop} {a : Act} {w : World} {gf : Nat} {lb : Array Value}
 (hg : a.eval g = .func (.func gf) #[] lb) (eg : ∀ args w,(callFunc gf args).run P w = .ok (.enter gf args) w)
 (h : ∀ fn,CallsIn Fence.wide (n - 1) P gf (#[.func (.yield (w.heap.size + 1)) #[] #[]] ++ lb)
   ((w.alloc (.deferred (some []))).alloc (.loop { state:=.ready,pending:=none,fn,tmps:=a.tmps,params:=ps,assign,body,defers:=w.heap.size }))
   (rangePost Fence.wide n P (w.heap.size + 1) Q { a with defers:={ target:=.collected w.heap.size,args:=#[] } :: a.defers })) :
 (Code.rangeFunc g ps assign body).wpIn Fence.wide n P Q a w:=by
 refine wpIn_rangeFunc ?_
 intro fn _
 obtain ⟨W1,hW1⟩ : ∃ W1,(w.alloc (.deferred (some []))).alloc (.loop { state:=.ready,pending:=none,fn,tmps:=a.tmps,params:=ps,assign,body,defers:=w.heap.size }) = W1:=⟨_,rfl⟩
 refine ⟨w.heap.size + 1,[{ target:=.collected w.heap.size,args:=#[] }],W1,{ target:=.fn (.func gf) lb,args:=#[.func (.yield (w.heap.size + 1)) #[] #[]] },W1,gf,
  #[.func (.yield (w.heap.size + 1)) #[] #[]] ++ lb,W1,?_,?_,fun _ _ => trivial,?_,fun h => (by cases h),?_⟩
 ·rw [← hW1];exact run_enterLoop_outer _ _ _ _ _
 ·simp only [resolve,hg]
  simp [go_sem]
 ·simp [invoke,go_sem,eg]
 ·rw [← hW1];exact h fn
set_option maxRecDepth 100000 in
theorem Qfg (s p : ByteArray) (w : World) :
 Calls Tryz.prog 130 #[.string s,.string p] w fun e w' => e = .returned (.func (.func 207) #[] #[.pointer (some ⟨w.heap.size + 1,0,none⟩),.pointer (some ⟨w.heap.size,0,none⟩),.pointer (some ⟨w.heap.size + 1 + 1,0,none⟩)]) ∧ w' = ((w.alloc (.cells #[.string s] 9)).alloc (.cells #[.string p] 9)).alloc (.cells #[.int .i64 0] 3):=by
 have hmf : ∀ (fn : Fn) (first cap : Array Value) (w : World),(Instr.makeFunc fn first cap).run Tryz.prog w = .ok (.func fn first cap) w:=fun _ _ _ _ => rfl
 go_enter Tryz.func130,Tryz.ntmps130
 go_wp2
 go_ret
 exact ⟨rfl,rfl⟩
structure LJ (w : World) (L : Nat) (r : Loop) (W : World) : Prop where
 res : W.heap[w.heap.size]? = some (.cells #[.bool false] 4 (0,0))
 l : W.heap[L + 1]? = some (.loop r)
 d : W.heap[L]? = some (.deferred (some []))
 be : Below w.heap.size w W
theorem LJ.set {w : World} {L : Nat} {r : Loop} {W : World} (h : LJ w L r W) (hL : w.heap.size + 4 ≤ L) (u : Value) : LJ w L r (W.setCell ⟨w.heap.size + 1,0,none⟩ u):=by
 have ht : ∀ i,i ≠ w.heap.size + 1 → (W.setCell ⟨w.heap.size + 1,0,none⟩ u).heap[i]? = W.heap[i]?:=fun i hi => Below.heap_setCell _ _ _ _ (fun e => hi (by simpa using e))
 exact ⟨(ht _ (by omega)).trans h.res,(ht _ (by omega)).trans h.l,(ht _ (by omega)).trans h.d,h.be.setCell (p:=⟨w.heap.size + 1,0,none⟩) (by show w.heap.size ≤ w.heap.size + 1;omega) _⟩
theorem LJ.put {w : World} {L : Nat} {r : Loop} {W : World} (h : LJ w L r W) (hL : w.heap.size + 4 ≤ L) (r' : Loop) : LJ w L r' (W.putObj (L + 1) (.loop r')):=by
 have ht : ∀ i,i ≠ L + 1 → (W.putObj (L + 1) (.loop r')).heap[i]? = W.heap[i]?:=fun i hi => World.putObj_heap_other (by omega)
 exact ⟨(ht _ (by omega)).trans h.res,World.putObj_heap_same (Array.getElem?_eq_some_iff.1 h.l).1,(ht _ (by omega)).trans h.d,h.be.trans ⟨rfl,rfl,rfl,by simp [World.putObj],fun k hk => ht k (by omega)⟩⟩
theorem LJ.store {w : World} {L : Nat} {r : Loop} {W : World} (h : LJ w L r W) (hL : w.heap.size + 4 ≤ L) : LJ w L r (W.setCell ⟨w.heap.size,0,none⟩ (.bool false)):=by
 have ht : ∀ i,i ≠ w.heap.size → (W.setCell ⟨w.heap.size,0,none⟩ (.bool false)).heap[i]? = W.heap[i]?:=fun i hi => Below.heap_setCell _ _ _ _ (fun e => hi (by simpa using e))
 refine ⟨?_,(ht _ (by omega)).trans h.l,(ht _ (by omega)).trans h.d,h.be.setCell (p:=⟨w.heap.size,0,none⟩) (Nat.le_refl _) _⟩
 simp [World.setCell,Array.getElem?_modify,h.res]
theorem LJ.below {w : World} {L : Nat} {r : Loop} {W W' : World} (h : LJ w L r W) (hb : Below W.heap.size W W') : LJ w L r W' :=
 ⟨(hb.block _ (Array.getElem?_eq_some_iff.1 h.res).1).trans h.res,(hb.block _ (Array.getElem?_eq_some_iff.1 h.l).1).trans h.l,(hb.block _ (Array.getElem?_eq_some_iff.1 h.d).1).trans h.d,h.be.trans (hb.mono h.be.size)⟩
theorem Y0 {fn : Func} {p : Tmp} {ty : TypeId} (h : fn.results = #[.cell p ty]) (tmps : Array Value) (P : Program) (w : World) :
 (results fn tmps).run P w = ((asAddr (tmps.getD p undef)).run P w).andThen fun a w₁ => (loadVar ty a).run P w₁:=by
 simp only [results,h]
 simp [Sem.run_bind]
theorem Qag {fn : Func} {p : Tmp} (h : fn.results = #[.cell p 4]) (tmps : Array Value) (w : World) (a : Addr) (v : Value) (hp : tmps.getD p undef = .pointer (some a)) (hc : w.cell? a = some v) : (results fn tmps).run Tryz.prog w = .ok v w:=by
 have ha:=Tryz.isAgg4
 rw [Y0 h,hp]
 simp [go_sem,ha,loadVar,hc]
theorem al4 (w : World) (a b c d : Obj) : ((((w.alloc a).alloc b).alloc c).alloc d).heap[w.heap.size]? = some a ∧ ((((w.alloc a).alloc b).alloc c).alloc d).heap[w.heap.size + 1]? = some b ∧ ((((w.alloc a).alloc b).alloc c).alloc d).heap[w.heap.size + 2]? = some c ∧ ((((w.alloc a).alloc b).alloc c).alloc d).heap[w.heap.size + 3]? = some d:=by
 have h1:=World.alloc_heap_new w a
 have h2:=World.alloc_heap_new (w.alloc a) b
 have h3:=World.alloc_heap_new ((w.alloc a).alloc b) c
 have h4:=World.alloc_heap_new (((w.alloc a).alloc b).alloc c) d
 simp only [World.size_alloc] at h2 h3 h4
 refine ⟨?_,?_,?_,h4⟩
 ·exact (((Below.heap_alloc _ _ _ (by simp;omega)).trans (Below.heap_alloc _ _ _ (by simp;omega))).trans (Below.heap_alloc _ _ _ (by simp))).trans h1
 ·exact ((Below.heap_alloc _ _ _ (by simp)).trans (Below.heap_alloc _ _ _ (by simp))).trans h2
 ·exact (Below.heap_alloc _ _ _ (by simp)).trans h3
set_option maxRecDepth 100000 in
set_option maxHeartbeats 4000000 in
theorem Qbb (s : T) (w : World) (hs : s.length ≤ 9223372036854775807) : Calls Tryz.prog 81 #[tv s] w fun e w' => e = .returned (.bool (lab s)) ∧ Below w.heap.size w w':=by
 by_cases h90 : 90 < s.length
 ·have e0 : lab s = false:=by
   have : decide (s.length ≤ 90) = false:=by simp;omega
   simp [lab,this]
  rw [e0]
  have t90 : (90 : Int) < (s.length : Int):=by omega
  refine (callsIn_wide (n:=5)).1 ?_
  refine callsIn_of_wp_marks Tryz.func81 rfl trivial ?_ rfl
  simp only [Tryz.ntmps81,List.size_toArray,List.length_cons,List.length_nil,Nat.reduceAdd,Nat.reduceSub,Array.replicate_succ,Array.replicate_zero,List.push_toArray,List.append_toArray,List.nil_append,List.cons_append]
  gi_wp2
  refine ⟨_,Qag rfl _ _ ⟨w.heap.size,0,none⟩ (.bool false) rfl (by simp),rfl,(Below.refl _ _).alloc (Nat.le_refl _) _⟩
 ·have e0 : lab s = Qah s:=by
   have : decide (s.length ≤ 90) = true:=by simp;omega
   simp [lab,this]
  rw [e0]
  have t90 : ¬ (90 : Int) < (s.length : Int):=by omega
  refine (callsIn_wide (n:=5)).1 ?_
  refine callsIn_of_wp_marks Tryz.func81 rfl trivial ?_ rfl
  simp only [Tryz.ntmps81,List.size_toArray,List.length_cons,List.length_nil,Nat.reduceAdd,Nat.reduceSub,Array.replicate_succ,Array.replicate_zero,List.push_toArray,List.append_toArray,List.nil_append,List.cons_append]
  gi_wp2_with (refine ⟨trivial,?_⟩;gi_at_call 130;refine (callsIn_wide.2 (Qfg _ _ _)).mono ?_;rintro e w' ⟨rfl,rfl⟩)
  obtain ⟨W0,hW0⟩ : ∃ W0,(((w.alloc (.cells #[.bool false] 4)).alloc (.cells #[tv s] 9)).alloc (.cells #[.string ⟨#[47]⟩] 9)).alloc (.cells #[.int .i64 0] 3) = W0:=⟨_,rfl⟩
  have s0 : W0.heap.size = w.heap.size + 4:=by rw [← hW0];simp
  obtain ⟨r0,g0,p0,z0⟩ : W0.heap[w.heap.size]? = some (.cells #[.bool false] 4 (0,0)) ∧ W0.heap[w.heap.size + 1]? = some (.cells #[tv s] 9 (0,0)) ∧ W0.heap[w.heap.size + 2]? = some (.cells #[.string ⟨#[47]⟩] 9 (0,0)) ∧ W0.heap[w.heap.size + 3]? = some (.cells #[.int .i64 0] 3 (0,0)):=by rw [← hW0];exact al4 _ _ _ _ _
  have b0 : Below w.heap.size w W0:=by rw [← hW0];exact ((((Below.refl _ w).alloc (Nat.le_refl _) _).alloc (by simp) _).alloc (by simp;omega) _).alloc (by simp;omega) _
  rw [hW0]
  have hD : w.heap.size + 4 ≤ W0.heap.size:=by omega
  clear hW0 s0
  refine Xz (gf:=207) (lb:=#[.pointer (some ⟨w.heap.size + 2,0,none⟩),.pointer (some ⟨w.heap.size + 1,0,none⟩),.pointer (some ⟨w.heap.size + 3,0,none⟩)]) rfl (enters_of Tryz.func207 (by kernel_rfl) rfl) ?_
  intro fn
  generalize hr : ({ state:=.ready,pending:=none,fn:=fn,tmps:=_,params:=_,assign:=_,body:=_,defers:=W0.heap.size } : Loop) = r
  obtain ⟨W1,hW1⟩ : ∃ W1,(W0.alloc (.deferred (some []))).alloc (.loop r) = W1:=⟨_,rfl⟩
  have ho : ∀ k,k < W0.heap.size → W1.heap[k]? = W0.heap[k]?:=fun k hk => by rw [← hW1];exact (Below.heap_alloc _ _ _ (by simp;omega)).trans (Below.heap_alloc _ _ _ hk)
  have j0 : LJ w W0.heap.size r W1:=by
   refine ⟨(ho _ (by omega)).trans r0,?_,?_,?_⟩
   ·rw [← hW1];have:=World.alloc_heap_new (W0.alloc (.deferred (some []))) (.loop r);rwa [World.size_alloc] at this
   ·rw [← hW1];exact (Below.heap_alloc _ _ _ (by simp)).trans (World.alloc_heap_new W0 _)
   ·rw [← hW1];exact (b0.alloc (by omega) _).alloc (by simp;omega) _
  have g1:=(ho _ (by omega)).trans g0
  have p1:=(ho _ (by omega)).trans p0
  have z1:=(ho _ (by omega)).trans z0
  rw [hW1]
  clear hW1 ho
  refine (Qmt 4 (by omega) (W0.heap.size + 1) (w.heap.size + 1) (w.heap.size + 2) (w.heap.size + 3) (by omega) (by omega) (LJ w W0.heap.size r) (LJ w W0.heap.size { r with state:=.done,pending:=some .ret }) (fun A u hA => hA.set hD u) ?_ s (by omega) W1 g1 p1 z1 j0).mono ?_
  ·intro x W hj hx
   have hy:=run_yield (P:=Tryz.prog) (args:=#[tv x]) hj.l (by rw [← hr];rfl)
   rw [← hr] at hy
   refine ⟨_,_,_,_,hy,roundIn_of_wpIn trivial ?_⟩
   clear hy
   simp only [List.zip_toArray,List.zip_cons_cons,List.zip_nil_right,List.foldl_toArray,List.foldl_cons,List.foldl_nil,List.setIfInBounds_toArray,List.set_cons_succ,List.set_cons_zero]
   gi_wp2
   refine ⟨_,run_beginRound hj.l (by rw [← hr]),?_⟩
   have hj2:=hj.put hD { r with state:=.busy }
   have hg2 : ∀ k,k ≠ W0.heap.size + 1 → (W.putObj (W0.heap.size + 1) (.loop { r with state:=.busy })).heap[k]? = W.heap[k]?:=fun k hk => World.putObj_heap_other (by omega)
   generalize W.putObj (W0.heap.size + 1) (.loop { r with state:=.busy }) = W2 at *
   have HJ2:=Qo0 hj2
   have HG2:=Qo0 hg2
   clear hj2 hg2
   by_cases h20 : 20 < x.length
   ·have t1 : (20 : Int) < (x.length : Int):=by omega
    have c1:=Lib.cell_of_heap HJ2.out.res 0
    have f1:=Lib.frozen_of_heap HJ2.out.res 0
    simp only [List.getElem?_toArray,List.getElem?_cons_zero] at c1
    have hw : Qb1 x = false:=by
     unfold Qb1
     have : decide (x.length ≤ 20) = false:=by simp;omega
     rw [this,Bool.and_false]
    have HW:=Qo0 hw
    clear hw
    gi_wp2_with (refine ⟨trivial,?_⟩)
    have hj3:=HJ2.out.store hD
    have hend:=run_endRound (P:=Tryz.prog) (some .ret) hj3.l
    refine ⟨_,_,hend,by rw [HW.out];rfl,Qfx (hj3.put hD _) HW.out,?_,?_,?_⟩
    all_goals (rw [World.putObj_heap_other (by omega),Below.heap_setCell _ _ _ _ (by show _ ≠ w.heap.size;omega),HG2.out _ (by omega)])
   ·have t1 : ¬ (20 : Int) < (x.length : Int):=by omega
    have WA:=fun W => Qgi x W (by omega)
    have hw : (wd x && decide (x.length ≤ 24)) = Qb1 x:=by
     unfold Qb1
     have h1 : decide (x.length ≤ 24) = true:=by simp;omega
     have h2 : decide (x.length ≤ 20) = true:=by simp;omega
     rw [h1,h2]
    rw [hw] at WA
    have HWA:=Qo0 WA
    clear WA hw
    cases hb : Qb1 x with
    | false =>
      rw [hb] at HWA
      gi_wp2_with (refine ⟨trivial,?_⟩;gi_at_call 131;refine (CallsIn.inRound _ (callsIn_wide.2 (HWA.out _))).mono ?_;rintro e W3 ⟨rfl,k3⟩;have HJ3:=Qo0 (HJ2.out.below k3);have K3:=Qo0 k3;have c1:=Lib.cell_of_heap HJ3.out.res 0;have f1:=Lib.frozen_of_heap HJ3.out.res 0;simp only [List.getElem?_toArray,List.getElem?_cons_zero] at c1;clear k3)
      have hj3:=HJ3.out.store hD
      have hend:=run_endRound (P:=Tryz.prog) (some .ret) hj3.l
      have kb : ∀ k,k < W2.heap.size → k ≠ w.heap.size → k ≠ W0.heap.size + 1 → ((W3.setCell ⟨w.heap.size,0,none⟩ (.bool false)).putObj (W0.heap.size + 1) (.loop { { { r with state:=.busy } with state:=.done } with pending:=some .ret })).heap[k]? = W.heap[k]?:=fun k h1 h2 h3 => by
       rw [World.putObj_heap_other (by omega),Below.heap_setCell _ _ _ _ (by show _ ≠ w.heap.size;omega),K3.out.block _ h1,HG2.out _ h3]
      have hlt:=(Array.getElem?_eq_some_iff.1 HJ2.out.l).1
      refine ⟨_,_,hend,rfl,Qfx (hj3.put hD _) rfl,kb _ (by omega) (by omega) (by omega),kb _ (by omega) (by omega) (by omega),kb _ (by omega) (by omega) (by omega)⟩
    | true =>
      rw [hb] at HWA
      gi_wp2_with (refine ⟨trivial,?_⟩;gi_at_call 131;refine (CallsIn.inRound _ (callsIn_wide.2 (HWA.out _))).mono ?_;rintro e W3 ⟨rfl,k3⟩;have HJ3:=Qo0 (HJ2.out.below k3);have K3:=Qo0 k3;clear k3)
      have hj3:=HJ3.out
      have hend:=run_endRound (P:=Tryz.prog) none hj3.l
      have hrr : ({ { r with state:=.busy } with state:=if (none : Option Code).isNone = true then .ready else .done,pending:=none } : Loop) = r:=by rw [← hr];rfl
      rw [hrr] at hend
      have kb : ∀ k,k < W2.heap.size → k ≠ W0.heap.size + 1 → (W3.putObj (W0.heap.size + 1) (.loop r)).heap[k]? = W.heap[k]?:=fun k h1 h3 => by
       rw [World.putObj_heap_other (by omega),K3.out.block _ h1,HG2.out _ h3]
      have hlt:=(Array.getElem?_eq_some_iff.1 HJ2.out.l).1
      refine ⟨_,_,hend,rfl,Qoa (hj3.put hD _) rfl,kb _ (by omega) (by omega),kb _ (by omega) (by omega),kb _ (by omega) (by omega)⟩
  ·rintro e W2 ⟨⟨v',rfl⟩,hj⟩
   cases hl : Qah s with
   | true =>
     have hj1:=hj.yes hl
     have HL:=Qo0 hl
     have hend:=run_endLoop (P:=Tryz.prog) hj1.l (by rw [← hr];simp)
     have hp : r.pending = none:=by rw [← hr]
     rw [hp] at hend
     have hj4:=hj1.put hD { r with state:=.exhausted,pending:=none }
     refine ⟨none,_,hend,?_⟩
     generalize W2.putObj (W0.heap.size + 1) _ = W3 at *
     have HJ4:=Qo0 hj4
     have c1:=Lib.cell_of_heap HJ4.out.res 0
     have f1:=Lib.frozen_of_heap HJ4.out.res 0
     simp only [List.getElem?_toArray,List.getElem?_cons_zero] at c1
     clear hj4 hp hj1 hj hl
     gi_wp2
     have hd : (W3.setCell ⟨w.heap.size,0,none⟩ (.bool true)).heap[W0.heap.size]? = some (.deferred (some [])):=(Below.heap_setCell _ _ _ _ (by show _ ≠ w.heap.size;omega)).trans HJ4.out.d
     refine ⟨by simp,.inl ⟨_,_,rfl,run_takeDeferred hd,?_⟩⟩
     refine ⟨_,Qag rfl _ _ ⟨w.heap.size,0,none⟩ (.bool true) rfl ?_,by rw [HL.out],?_⟩
     ·have h1 : ((W3.setCell ⟨w.heap.size,0,none⟩ (.bool true)).putObj W0.heap.size (.deferred none)).heap[w.heap.size]? = some (.cells #[.bool true] 4 (0,0)):=by
       rw [World.putObj_heap_other (by omega)]
       simp [World.setCell,Array.getElem?_modify,HJ4.out.res]
      simpa using Lib.cell_of_heap h1 0
     ·exact (HJ4.out.be.setCell (p:=⟨w.heap.size,0,none⟩) (Nat.le_refl _) _).trans ⟨rfl,rfl,rfl,by simp,fun k hk => World.putObj_heap_other (by omega)⟩
   | false =>
     have hj1:=hj.no hl
     have hend:=run_endLoop (P:=Tryz.prog) hj1.l (by simp)
     have hj4:=hj1.put hD { r with state:=.exhausted,pending:=some .ret }
     refine ⟨some .ret,_,hend,?_⟩
     have HJ4:=Qo0 hj4
     have HL:=Qo0 hl
     gi_wp2
     refine ⟨by simp,.inl ⟨_,_,rfl,run_takeDeferred HJ4.out.d,?_⟩⟩
     refine ⟨_,Qag rfl _ _ ⟨w.heap.size,0,none⟩ (.bool false) rfl ?_,by rw [HL.out],?_⟩
     ·have h1:=(World.putObj_heap_other (o:=.deferred none) (show w.heap.size ≠ W0.heap.size by omega)).trans HJ4.out.res
      simpa using Lib.cell_of_heap h1 0
     ·exact HJ4.out.be.trans ⟨rfl,rfl,rfl,by simp,fun k hk => World.putObj_heap_other (by omega)⟩
end Go.Proofs.YtiaenhlflgobfaaGreatDoor
