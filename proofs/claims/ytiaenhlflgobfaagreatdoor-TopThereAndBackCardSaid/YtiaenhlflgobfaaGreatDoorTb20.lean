/- Words. -/
import Derived.Test.YtiaenhlflgobfaaGreatDoorTb5
import Derived.Lib.AppendZerosOnto
import Derived.Lib.Overlaps
import Derived.Shelf.RegionOpenPlain
import Derived.Shelf.Spec.SlicesInsert
import Derived.Laws.Externs
import Derived.Laws.IdiomCopy
namespace Go.Proofs.YtiaenhlflgobfaaGreatDoor
open Go.RowKit Go.Shelf Go.Lib
def Ye : List Value → Nat → List Value → List Value
 | xs,_,[] => xs
 | xs,o,v :: vs => Ye (xs.set o v) (o + 1) vs
theorem Z0 : ∀ (vs xs : List Value) (o : Nat),o + vs.length ≤ xs.length → Ye xs o vs = xs.take o ++ vs ++ xs.drop (o + vs.length)
 | [],xs,o,_ => by simp [Ye]
 | v :: vs,xs,o,h => by
   simp only [List.length_cons] at h ⊢
   rw [Ye,Z0 vs (xs.set o v) (o + 1) (by rw [List.length_set];omega)]
   rw [List.drop_set_of_lt (by omega),List.take_add_one,List.getElem?_set_self (by omega),List.take_set_of_le (Nat.le_refl _),show o + 1 + vs.length = o + (vs.length + 1) from by omega]
   simp
theorem Qm {e : TypeId} {k B g cap n : Nat} : ∀ (vs xs : List Value) (o : Nat) (V : World),V.ownsRow B e k (.slice (some ⟨g,0,none⟩) n cap) n xs → (V.setCells g o vs).ownsRow B e k (.slice (some ⟨g,0,none⟩) n cap) n (Ye xs o vs) ∧ V.grownBy (V.setCells g o vs) (some g)
 | [],xs,o,V,h => ⟨h,World.grownBy.refl _ _⟩
 | u :: vs,xs,o,V,h => by
   have s1:=h.stored o u
   have s2:=Qm vs _ (o + 1) _ s1.1
   rw [World.setCells,Ye]
   exact ⟨s2.1,s1.2.trans s2.2⟩
theorem Qfl {e : TypeId} {k B g cap n m : Nat} {xs : List Value} {V : World} (h : V.ownsRow B e k (.slice (some ⟨g,0,none⟩) n cap) n xs) (hnm : n ≤ m) (hm : m ≤ cap) : ∃ ys,V.ownsRow B e k (.slice (some ⟨g,0,none⟩) m cap) m ys ∧ ys.take (n * k) = xs:=by
 obtain ⟨e0,e1⟩:=h
 have hmul:=Nat.mul_le_mul_right k hm
 have hmul2:=Nat.mul_le_mul_right k hnm
 rcases e1 with ⟨e1,-⟩ | ⟨g',cap',cur,e1,hb,hh,hnc,hmx,hs,hx⟩
 ·cases e1
 ·simp only [Value.slice.injEq,Option.some.injEq,Addr.mk.injEq,and_true,true_and] at e1
  obtain ⟨rfl,rfl⟩:=e1
  refine ⟨cur.toList.take (m * k),⟨by simp;omega,.inr ⟨g,cap,cur,rfl,hb,hh,hm,hmx,hs,rfl⟩⟩,?_⟩
  rw [List.take_take,Nat.min_eq_left hmul2]
  exact hx
theorem Qdr {α : Type} (cs : α → List Value) (k : Nat) (hk : ∀ x,(cs x).length = k) (L : List α) (x : α) {n i m : Nat} {xs news : List Value} (hn : L.length = n) (hi : i < n) (hm : m = 1) (hxs : xs.take (n * k) = L.flatMap cs) (hxl : xs.length = (n + m) * k) (hnews : news = (L.drop i).flatMap cs) (hlen : news.length = (n - i) * k) :
 (xs.take ((i + m) * k) ++ news ++ xs.drop ((i + m) * k + news.length)).take (i * k) ++ cs x ++ (xs.take ((i + m) * k) ++ news ++ xs.drop ((i + m) * k + news.length)).drop (i * k + (cs x).length) = (L.take i ++ x :: L.drop i).flatMap cs:=by
 subst hm
 have e1 : (i + 1) * k = i * k + k:=by rw [Nat.add_mul,Nat.one_mul]
 have e2 : (n + 1) * k = n * k + k:=by rw [Nat.add_mul,Nat.one_mul]
 have e3 : i * k + (n - i) * k = n * k:=by rw [← Nat.add_mul];congr 1;omega
 have e4 : xs.take (i * k) = (L.take i).flatMap cs:=by
  have h:=congrArg (List.take (i * k)) hxs
  rw [List.take_take,Nat.min_eq_left (Nat.mul_le_mul_right k (by omega))] at h
  rw [h]
  have e : L.flatMap cs = (L.take i).flatMap cs ++ (L.drop i).flatMap cs:=by rw [← List.flatMap_append,List.take_append_drop]
  rw [e,List.take_left' (by rw [Qk cs k hk,List.length_take,Nat.min_eq_left (by omega)])]
 have d0 : xs.drop ((i + 1) * k + news.length) = []:=List.drop_eq_nil_of_le (by rw [hxl,hlen];omega)
 rw [d0,List.append_nil,hk,List.take_append_of_le_length (by rw [List.length_take];omega),List.take_take,Nat.min_eq_left (by omega),e4,List.drop_append_of_le_length (by rw [List.length_take];omega)]
 have d1 : (xs.take ((i + 1) * k)).drop (i * k + k) = []:=List.drop_eq_nil_of_le (by rw [List.length_take];omega)
 rw [d1,hnews]
 simp
theorem Qcp {α : Type} (cs : α → List Value) (k : Nat) (hk : ∀ x,(cs x).length = k) (L : List α) (x : α) {n i m : Nat} {xs news : List Value} (hi : i < n) (hm : m = 1) (hxl : xs.length = (n + m) * k) (hxs : xs.take (i * k) = (L.take i).flatMap cs) (hnews : news = (L.drop i).flatMap cs) (hlen : news.length = (n - i) * k) :
 (xs.take (i * k) ++ cs x ++ xs.drop (i * k + (cs x).length)).take ((i + m) * k) ++ news ++ (xs.take (i * k) ++ cs x ++ xs.drop (i * k + (cs x).length)).drop ((i + m) * k + news.length) = (L.take i ++ x :: L.drop i).flatMap cs:=by
 subst hm
 have e1 : (i + 1) * k = i * k + k:=by rw [Nat.add_mul,Nat.one_mul]
 have e2 : (n + 1) * k = n * k + k:=by rw [Nat.add_mul,Nat.one_mul]
 have e3 : i * k + (n - i) * k = n * k:=by rw [← Nat.add_mul];congr 1;omega
 have hl : (xs.take (i * k) ++ cs x).length = (i + 1) * k:=by rw [List.length_append,List.length_take,hk];omega
 rw [List.take_left' hl,List.drop_eq_nil_of_le (by simp only [List.length_append,List.length_take,List.length_drop,hk];omega),List.append_nil,hxs,hnews]
 simp
theorem own_cut {e : TypeId} {k B g cap n m : Nat} {xs : List Value} {V : World} (h : V.ownsRow B e k (.slice (some ⟨g,0,none⟩) n cap) n xs) (hm : m ≤ n) : V.ownsRow B e k (.slice (some ⟨g,0,none⟩) m cap) m (xs.take (m * k)):=by
 obtain ⟨e0,e1⟩:=h
 have hmul:=Nat.mul_le_mul_right k hm
 refine ⟨by rw [List.length_take];omega,?_⟩
 rcases e1 with ⟨e1,-⟩ | ⟨g',cap',cur,e1,hb,hh,hnc,hmx,hs,hx⟩
 ·cases e1
 ·simp only [Value.slice.injEq,Option.some.injEq,Addr.mk.injEq,and_true,true_and] at e1
  obtain ⟨rfl,rfl⟩:=e1
  refine .inr ⟨g,cap,cur,rfl,hb,hh,by omega,hmx,hs,?_⟩
  rw [← hx,List.take_take,Nat.min_eq_left (by omega)]
theorem Qis {α : Type} (f : α → List Value) (m : Nat) (h : ∀ x,(f x).length = m) (L : List α) (i : Nat) (hi : i < L.length) : (L.eraseIdx i).flatMap f = (L.flatMap f).take (i * m) ++ (L.drop (i + 1)).flatMap f:=by
 have e : L.flatMap f = (L.take i).flatMap f ++ (L.drop i).flatMap f:=by rw [← List.flatMap_append,List.take_append_drop]
 rw [e,List.take_append_of_le_length (by rw [Qk f m h,List.length_take];rw [Nat.min_eq_left (by omega)];exact Nat.le_refl _),List.take_of_length_le (by rw [Qk f m h,List.length_take,Nat.min_eq_left (by omega)];exact Nat.le_refl _),← List.flatMap_append,List.eraseIdx_eq_take_drop_succ]
theorem Qde {e : TypeId} {k : Nat} {α : Type} {cs : α → List Value} (hk : ∀ x,(cs x).length = k) {B g cap n i : Nat} {L : List α} {V : World} (o : OR e k cs V B (.slice (some ⟨g,0,none⟩) n cap) L) (hn : L.length = n) (hi : i < n) (zs : List Value) :
 OR e k cs ((V.setCells g (i * k) ((L.drop (i + 1)).flatMap cs)).setCells g ((n - 1) * k) zs) B (.slice (some ⟨g,0,none⟩) (n - 1) cap) (L.eraseIdx i) ∧ V.grownBy ((V.setCells g (i * k) ((L.drop (i + 1)).flatMap cs)).setCells g ((n - 1) * k) zs) (some g):=by
 have h2:=o
 unfold OR at h2 ⊢
 rw [hn] at h2
 have hd : ((L.drop (i + 1)).flatMap cs).length = (n - (i + 1)) * k:=by rw [Qk cs k hk,List.length_drop,hn]
 have hf : (L.flatMap cs).length = n * k:=by rw [Qk cs k hk,hn]
 have e1 : i * k + (n - (i + 1)) * k = (n - 1) * k:=by rw [← Nat.add_mul];congr 1;omega
 have e2 : (n - 1) * k ≤ n * k:=Nat.mul_le_mul_right k (by omega)
 have s1:=Qm ((L.drop (i + 1)).flatMap cs) _ (i * k) _ h2
 have s2:=Qm zs _ ((n - 1) * k) _ s1.1
 refine ⟨?_,s1.2.trans s2.2⟩
 have hl : (L.eraseIdx i).length = n - 1:=by rw [List.length_eraseIdx,hn,if_pos hi]
 have h3:=own_cut s2.1 (m:=n - 1) (by omega)
 rw [hl]
 have e3 : (Ye (Ye (L.flatMap cs) (i * k) ((L.drop (i + 1)).flatMap cs)) ((n - 1) * k) zs).take ((n - 1) * k) = (L.eraseIdx i).flatMap cs:=by
  have q : ∀ (zs xs : List Value) (o m : Nat),m ≤ o → (Ye xs o zs).take m = xs.take m:=by
   intro zs
   induction zs with
   | nil => intro xs o m _;rfl
   | cons z zs ih =>
     intro xs o m hm
     rw [Ye,ih _ _ _ (by omega),List.take_set_of_le hm]
  rw [q _ _ _ _ (Nat.le_refl _),Z0 _ _ _ (by rw [hd,hf];omega),List.take_append_of_le_length (by rw [List.length_append,List.length_take,hd,hf];omega),List.take_of_length_le (by rw [List.length_append,List.length_take,hd,hf];omega),Qis cs k hk L i (by omega)]
 rw [e3] at h3
 exact h3
theorem Zm {P : Program} (w : World) (dT sT ty elem : TypeId) (size : Nat) (b o dLen dCap : Nat) (a : Addr) (sLen sCap : Nat) (cs : List Value)
 (hu : P.underlying dT = some (.slice elem)) (hs : (P.info? elem).map (·.size) = some size) (m : Nat) (hm : Nat.min sLen dLen = m) (hn : cs.length = m * size)
 (hsrc : ∀ j v,cs[j]? = some v → w.cell? (a.add j) = some v) (hc : ∀ j,j < cs.length → (w.cell? ⟨b,o + j,none⟩).isSome = true) (hf : ∀ j,j < cs.length → w.frozen? ⟨b,o + j,none⟩ = false) (h1 : ∀ v ∈ cs,v.oneCell' = true) :
 (Builtin.copy_ #[dT,sT] ty #[.slice (some ⟨b,o,none⟩) dLen dCap,.slice (some a) sLen sCap]).run P w = .ok (goInt m) (w.setCells b o cs):=by
 have hl:=run_loadCells_list (P:=P) w a cs hsrc
 have hst:=run_storeCells_cells (P:=P) b o cs 0 w (by simpa using hc) (by simpa using hf) h1
 cases hq : P.info? elem with
 | none => simp [hq] at hs
 | some i =>
   have hi : i.size = size:=by simpa [hq] using hs
   rw [hn] at hl
   have hm' : min sLen dLen = m:=hm
   simp [Builtin.copy_,run_underlying hu,Builtin.lenOf,Builtin.firstCells,sizeOf,typeInfo,hq,hi,hm',hl,hst]
end Go.Proofs.YtiaenhlflgobfaaGreatDoor
