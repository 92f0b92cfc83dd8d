/- Words. -/
import Derived.Test.YtiaenhlflgobfaaGreatDoorTb20
namespace Go.Proofs.YtiaenhlflgobfaaGreatDoor
open Go.RowKit Go.Shelf Go.Lib
theorem Qnv (w : World) (vb g o m vc lb cb : Nat) (cv cg : Array Value) (hv : w.heap[vb]? = some (.cells cv 45 (0,0))) (hg : w.heap[g]? = some (.cells cg 45 (0,0))) (hne : vb ≠ g) (hs : cg.size ≠ 0) : (callFunc 104 #[.slice (some ⟨vb,0,none⟩) m vc,.slice (some ⟨g,o,none⟩) lb cb]).run Tryz.prog w = .ok (.value (.bool false)) w:=by
 rw [run_callFunc_extern Tryz.func104 (by kernel_rfl) (by kernel_rfl) (by kernel_rfl) (e:=Extern.SlicesOverlaps.overlaps #[30,30] #[4]) (by kernel_rfl),
  Lib.run_overlaps_apart w 30 4 45 Tryz.underlying30 11 Tryz.sizeOf45 ⟨vb,0,none⟩ ⟨g,o,none⟩ m vc lb cb hne 45 45 cv.size cg.size (by simp [World.shape?,hv]) (by simp [World.shape?,hg]) hs (by simp [World.frozen?,hv]) (by simp [World.frozen?,hv])]
 rfl
attribute [local irreducible] Calls in
set_option maxRecDepth 100000 in
set_option maxHeartbeats 8000000 in
theorem Qih (B g off n c i m vb vc : Nat) (L : List Dec) (x : Dec) (w : World) (hof : off = 0) (o : OR 45 11 Dec.cs w B (.slice (some ⟨g,0,none⟩) n c) L) (hn : L.length = n) (hi : i < n) (hm1 : m = 1) (hroom : n + m ≤ c) (hc63 : c ≤ 9223372036854775807) (hx : w.heap[vb]? = some (.cells (Dec.cs x).toArray 45 (0,0))) (hne : vb ≠ g) :
 Calls Tryz.prog 61 #[.slice (some ⟨g,off,none⟩) n c,.int .i64 i,.slice (some ⟨vb,0,none⟩) m vc] w fun e w' => e = .returned (.slice (some ⟨g,off,none⟩) (n + m) c) ∧ OR 45 11 Dec.cs w' B (.slice (some ⟨g,0,none⟩) (n + m) c) (L.take i ++ x :: L.drop i) ∧ w.grownBy w' (some g):=by
 obtain ⟨i0,hi0,hz0,hzs,hzb⟩:=info_parts (show (Tryz.prog.info? 45).map (fun i => (i.zero,i.size,i.bytes)) = some (some (.agg #[iv 0,iv 0,.bool false,.slice none 0 0,.bool false,iv 0,.string ⟨#[]⟩,.string ⟨#[]⟩,iv 0,iv 0,.slice none 0 0]),11,136) by kernel_rfl)
 obtain ⟨news,hnews⟩ : ∃ news,news = (L.drop i).flatMap Dec.cs:=⟨_,rfl⟩
 have hlen : news.length = (n - i) * 11:=by rw [hnews,Qk Dec.cs 11 elD.hn,List.length_drop,hn]
 obtain ⟨cur,hg,hcs⟩ : ∃ cur,w.heap[g]? = some (.cells cur 45 (0,0)) ∧ cur.size = c * 11:=by
  rcases o.2 with ⟨h1,_⟩ | ⟨g',cap',cur,e1,_,hh,_,_,hs,_⟩
  ·cases h1
  ·obtain ⟨e2,-,e3⟩:=Value.slice.inj e1
   simp only [Option.some.injEq,Addr.mk.injEq,and_true] at e2
   subst e2;subst e3
   exact ⟨cur,hh,hs⟩
 have o1 : w.drew.ownsRow B 45 11 (.slice (some ⟨g,0,none⟩) n c) n (L.flatMap Dec.cs):=by have h:=o.gr (Qb w);unfold OR at h;rwa [hn] at h
 have hfl : (L.flatMap Dec.cs).length = n * 11:=by rw [Qk Dec.cs 11 elD.hn,hn]
 obtain ⟨xs,o2,hxs⟩:=Qfl o1 (m:=n + m) (by omega) hroom
 have hxl : xs.length = (n + m) * 11:=o2.1
 have hget : ∀ t u,news[t]? = some u → w.drew.cell? ⟨g,i * 11 + t,none⟩ = some u:=by
  intro t u hu
  have ht:=(List.getElem?_eq_some_iff.1 hu).1
  rw [o1.cellAt (i * 11 + t) (by omega)]
  have e : L.flatMap Dec.cs = (L.take i).flatMap Dec.cs ++ news:=by rw [hnews,← List.flatMap_append,List.take_append_drop]
  rw [e,List.getElem?_append_right (by rw [Qk Dec.cs 11 elD.hn,List.length_take,hn];omega),Qk Dec.cs 11 elD.hn,List.length_take,hn,Nat.min_eq_left (by omega),Nat.add_sub_cancel_left]
  exact hu
 have h1n : ∀ u ∈ news,u.oneCell' = true:=by
  intro u hu
  rw [hnews] at hu
  obtain ⟨y,_,hy⟩:=List.mem_flatMap.1 hu
  exact elD.h1 y u hy
 have hz1 : ¬ ((m : Int) = 0):=by omega
 have hz2 : ¬ ((i : Int) = (n : Int)):=by omega
 have hov : ∀ o lb cb,(callFunc 104 #[.slice (some ⟨vb,0,none⟩) m vc,.slice (some ⟨g,o,none⟩) lb cb]).run Tryz.prog w = .ok (.value (.bool false)) w:=fun o lb cb => Qnv w vb g o m vc lb cb _ _ hx hg hne (by rw [hcs];omega)
 have HOV:=Qo0 hov
 obtain ⟨W1,hW1⟩ : ∃ W1,W1 = w.drew.setCells g (off + (i + m) * 11) news:=⟨_,rfl⟩
 have o3 : W1.ownsRow B 45 11 (.slice (some ⟨g,0,none⟩) (n + m) c) (n + m) (Ye xs ((i + m) * 11) news):=by rw [hW1,hof,Nat.zero_add];exact (Qm news _ _ _ o2).1
 have s1 : Hid (∀ ty dc sc,(Builtin.copy_ #[30,30] ty #[.slice (some ⟨g,off + (i + m) * 11,none⟩) (n + m - (i + m)) dc,.slice (some ⟨g,off + i * 11,none⟩) (n + m - i) sc]).run Tryz.prog w.drew = .ok (goInt ((n - i : Nat) : Int)) W1):=fun ty dc sc => by
  rw [hW1]
  exact Zm w.drew 30 30 ty 45 11 g _ _ dc _ _ sc news Tryz.underlying30 (by rw [hi0];simp [hzs]) (n - i) (by simp only [Nat.min_def];split <;> omega) hlen
   (fun j v hj => by rw [Addr.add_lit,hof,Nat.zero_add];exact hget j v hj)
   (fun j hj => by rw [hof,Nat.zero_add,o2.cellAt _ (by rw [hlen] at hj;omega),List.getElem?_eq_getElem (by rw [hxl];rw [hlen] at hj;omega)];rfl)
   (fun j _ => by rw [hof,Nat.zero_add];exact o2.frozenAt _) h1n
 have s2 : Hid (∀ ty dc,(Builtin.copy_ #[30,30] ty #[.slice (some ⟨g,off + i * 11,none⟩) (n + m - i) dc,.slice (some ⟨vb,0,none⟩) m vc]).run Tryz.prog W1 = .ok (goInt ((m : Nat) : Int)) (W1.setCells g (off + i * 11) (Dec.cs x))):=fun ty dc => by
  have hxW : ∀ j v,(Dec.cs x)[j]? = some v → W1.cell? ⟨vb,j,none⟩ = some v:=fun j v hj => by
   rw [hW1,World.cell?_setCells_out _ _ _ _ _ (fun h _ => absurd h hne)]
   show w.cell? _ = _
   rw [Lib.cell_of_heap hx,List.getElem?_toArray]
   exact hj
  exact Zm W1 30 30 ty 45 11 g _ _ dc _ _ vc (Dec.cs x) Tryz.underlying30 (by rw [hi0];simp [hzs]) m (by simp only [Nat.min_def];split <;> omega) (by rw [elD.hn,hm1,Nat.one_mul])
   (fun j v hj => by rw [Addr.add_lit,Nat.zero_add];exact hxW j v hj)
   (fun j hj => by rw [hof,Nat.zero_add,o3.cellAt _ (by rw [elD.hn] at hj;omega),List.getElem?_eq_getElem (by rw [o3.1];rw [elD.hn] at hj;omega)];rfl)
   (fun j _ => by rw [hof,Nat.zero_add];exact o3.frozenAt _) (elD.h1 x)
 have FIN : Hid (OR 45 11 Dec.cs (W1.setCells g (off + i * 11) (Dec.cs x)) B (.slice (some ⟨g,0,none⟩) (n + m) c) (L.take i ++ x :: L.drop i) ∧ w.grownBy (W1.setCells g (off + i * 11) (Dec.cs x)) (some g)):=by
  have s4:=Qm (Dec.cs x) _ (i * 11) _ o3
  rw [hof,Nat.zero_add]
  refine ⟨?_,?_⟩
  ·have e1 : Ye (Ye xs ((i + m) * 11) news) (i * 11) (Dec.cs x) = (L.take i ++ x :: L.drop i).flatMap Dec.cs:=by
    rw [Z0 _ xs _ (by rw [hlen,hxl];omega),Z0 _ _ _ (by simp only [List.length_append,List.length_take,List.length_drop,hlen,hxl,elD.hn];omega)]
    exact Qdr Dec.cs 11 elD.hn L x hn hi hm1 hxs hxl hnews hlen
   have e2 : (L.take i ++ x :: L.drop i).length = n + m:=by simp;omega
   unfold OR
   rw [e2,← e1]
   exact s4.1
  ·exact (World.grownBy.but (Qb w) _).trans ((by rw [hW1,hof,Nat.zero_add];exact (Qm news _ _ _ o2).2 : w.drew.grownBy W1 (some g)).trans s4.2)
 have hw1 : IntKind.i64.wrap ((i : Int) + (m : Int)) = (i : Int) + (m : Int):=by rw [IntKind.wrap_i64];omega
 have hb1 : (0 : Int) ≤ (i : Int) + (m : Int):=by omega
 have hin : i ≤ n:=by omega
 have htn : ((i : Int) + (m : Int)).toNat = i + m:=by omega
 have hb2 : ¬ (c = i + m):=by omega
 have hb3 : (i : Int) ≤ (n : Int) + (m : Int):=by omega
 have hb4 : ¬ (c = i):=by omega
 have HM:=Qo0 hm1
 have HW1 : Hid (W1 = w.drew.setCells g (off + (i + m) * 11) news):=hW1
 have HOF:=Qo0 hof
 clear hW1 o1 o2 o3 hget hnews hlen hfl o hn hxs hxl h1n hcs hg hx hm1 hof hz0 hzs hzb hi0 hne
 go_enter Tryz.func61,Tryz.ntmps61
 go_wp2_with (simp only [hov])
 clear hov
 go_region_law (refine step_copy_runI rfl _ _ 30 30 rfl (.slice (some ⟨g,off + (i + m) * 11,none⟩) (n + m - (i + m)) (c - (i + m))) (.slice (some ⟨g,off + i * 11,none⟩) (n + m - i) (c - i)) (by simp [Act.eval,Act.put]) (by simp [Act.eval,Act.put]) (s1.out _ _ _) ?_)
 have hcp2:=s2.out 3 (c - i)
 go_wp2
 go_ret
 exact ⟨rfl,FIN.out⟩
attribute [local irreducible] Calls in
set_option maxRecDepth 100000 in
set_option maxHeartbeats 8000000 in
theorem Qls (B g off n c i m vb vc : Nat) (L : List Dec) (x : Dec) (w : World) (hof : off = 0) (o : OR 45 11 Dec.cs w B (.slice (some ⟨g,0,none⟩) n c) L) (hb : B ≤ w.heap.size) (hn : L.length = n) (hi : i < n) (hm1 : m = 1) (hnc : n ≤ c) (hroom : c < n + m) (hbig : n ≤ 1000000) (hx : w.heap[vb]? = some (.cells (Dec.cs x).toArray 45 (0,0))) :
 Calls Tryz.prog 61 #[.slice (some ⟨g,off,none⟩) n c,.int .i64 i,.slice (some ⟨vb,0,none⟩) m vc] w fun e w' => ∃ G,e = .returned (.slice (some ⟨w.heap.size,0,none⟩) (n + m) G) ∧ OR 45 11 Dec.cs w' B (.slice (some ⟨w.heap.size,0,none⟩) (n + m) G) (L.take i ++ x :: L.drop i) ∧ Gr w w':=by
 obtain ⟨i0,hi0,hz0,hzs,hzb⟩:=info_parts (show (Tryz.prog.info? 45).map (fun i => (i.zero,i.size,i.bytes)) = some (some (.agg #[iv 0,iv 0,.bool false,.slice none 0 0,.bool false,iv 0,.string ⟨#[]⟩,.string ⟨#[]⟩,iv 0,iv 0,.slice none 0 0]),11,136) by kernel_rfl)
 obtain ⟨news,hnews⟩ : ∃ news,news = (L.drop i).flatMap Dec.cs:=⟨_,rfl⟩
 have hlen : news.length = (n - i) * 11:=by rw [hnews,Qk Dec.cs 11 elD.hn,List.length_drop,hn]
 obtain ⟨olds,holds⟩ : ∃ olds,olds = (L.take i).flatMap Dec.cs:=⟨_,rfl⟩
 have hol : olds.length = i * 11:=by rw [holds,Qk Dec.cs 11 elD.hn,List.length_take,hn,Nat.min_eq_left (by omega)]
 have hfl : L.flatMap Dec.cs = olds ++ news:=by rw [holds,hnews,← List.flatMap_append,List.take_append_drop]
 have o1 : w.ownsRow B 45 11 (.slice (some ⟨g,0,none⟩) n c) n (olds ++ news):=by have h:=o;unfold OR at h;rwa [hn,hfl] at h
 have hgl:=(o.lt g rfl).2
 have hgo : ∀ t u,olds[t]? = some u → w.drew.cell? ⟨g,t,none⟩ = some u:=by
  intro t u hu
  have ht:=(List.getElem?_eq_some_iff.1 hu).1
  show w.cell? _ = _
  rw [o1.cellAt t (by rw [hol] at ht;have:=Nat.mul_le_mul_right 11 (show i ≤ n by omega);omega),List.getElem?_append_left ht]
  exact hu
 have hgn : ∀ t u,news[t]? = some u → w.cell? ⟨g,i * 11 + t,none⟩ = some u:=by
  intro t u hu
  have ht:=(List.getElem?_eq_some_iff.1 hu).1
  rw [o1.cellAt (i * 11 + t) (by omega),List.getElem?_append_right (by omega),hol,Nat.add_sub_cancel_left]
  exact hu
 have h1n : ∀ u ∈ news,u.oneCell' = true:=by
  intro u hu
  rw [hnews] at hu
  obtain ⟨y,_,hy⟩:=List.mem_flatMap.1 hu
  exact elD.h1 y u hy
 have hold : (Builtin.firstCells i0.size i (.slice (some ⟨g,off,none⟩) i c)).run Tryz.prog w.drew = .ok olds.toArray w.drew:=by
  rw [hzs]
  exact run_firstCells_some w.drew 11 i ⟨g,off,none⟩ i c olds hol (fun j v hj => by rw [Addr.add_lit,hof,Nat.zero_add];exact hgo j v hj)
 have hik : i + (n + m - i) = n + m:=by omega
 have hkk : (n : Int) + (m : Int) - (i : Int) = ((n + m - i : Nat) : Int):=by omega
 have hrz : ∀ ty,(Builtin.append_ #[30,3] ty #[.slice (some ⟨g,off,none⟩) i c,.int .i64 ((n : Int) + (m : Int) - (i : Int))]).run Tryz.prog w =
  .ok (.slice (some ⟨w.heap.size,0,none⟩) (n + m) (grownCap w (n + m) c 45)) (w.drew.alloc (.cells (olds.toArray ++ Builtin.zeroCells (Value.cells (.agg #[iv 0,iv 0,.bool false,.slice none 0 0,.bool false,iv 0,.string ⟨#[]⟩,.string ⟨#[]⟩,iv 0,iv 0,.slice none 0 0])) (n + m - i) ++ Builtin.zeroCells (Value.cells (.agg #[iv 0,iv 0,.bool false,.slice none 0 0,.bool false,iv 0,.string ⟨#[]⟩,.string ⟨#[]⟩,iv 0,iv 0,.slice none 0 0])) (grownCap w (n + m) c 45 - (n + m))) 45)):=fun ty => by
  have h:=Lib.run_append_grow_zeros w 30 3 ty 45 i0 _ .i64 .i64 Tryz.underlying30 Tryz.underlying3 hi0 hz0 (some ⟨g,off,none⟩) i c olds hold (n + m - i) (by omega) (by omega) (by omega) (by omega) (by rw [hzb];omega) (by rw [hzb,hik];exact growslice_fits hroom (by omega))
  rw [hik] at h
  rw [hkk]
  exact h
 have hGn : n + m ≤ grownCap w (n + m) c 45:=grownCap_ge w _ _ _
 have hG63 : grownCap w (n + m) c 45 ≤ maxLen:=grownCap_le_maxLen w (n + m) c 45 (by unfold maxLen;omega)
 obtain ⟨G,hG⟩ : ∃ G,grownCap w (n + m) c 45 = G:=⟨_,rfl⟩
 rw [hG] at hrz hGn hG63
 obtain ⟨ROW,hROW⟩ : ∃ ROW : Array Value,ROW = olds.toArray ++ Builtin.zeroCells (Value.cells (.agg #[iv 0,iv 0,.bool false,.slice none 0 0,.bool false,iv 0,.string ⟨#[]⟩,.string ⟨#[]⟩,iv 0,iv 0,.slice none 0 0])) (n + m - i) ++ Builtin.zeroCells (Value.cells (.agg #[iv 0,iv 0,.bool false,.slice none 0 0,.bool false,iv 0,.string ⟨#[]⟩,.string ⟨#[]⟩,iv 0,iv 0,.slice none 0 0])) (G - (n + m)):=⟨_,rfl⟩
 rw [← hROW] at hrz
 have hzc : ∀ q,(Builtin.zeroCells (Value.cells (.agg #[iv 0,iv 0,.bool false,.slice none 0 0,.bool false,iv 0,.string ⟨#[]⟩,.string ⟨#[]⟩,iv 0,iv 0,.slice none 0 0])) q).size = q * 11:=fun q => by simp [Builtin.zeroCells,Value.cells]
 have hRl : ROW.size = G * 11:=by
  rw [hROW,Array.size_append,Array.size_append,hzc,hzc,List.size_toArray,hol]
  omega
 have hRt : ROW.toList.take (i * 11) = olds:=by
  rw [hROW,Array.toList_append,Array.toList_append,List.append_assoc,List.toList_toArray,← hol]
  simp
 obtain ⟨W1,hW1⟩ : ∃ W1,W1 = w.drew.alloc (.cells ROW 45):=⟨_,rfl⟩
 rw [← hW1] at hrz
 have hN : W1.heap[w.heap.size]? = some (.cells ROW 45 (0,0)):=by rw [hW1];exact Qd w.drew _
 have o2 : W1.ownsRow B 45 11 (.slice (some ⟨w.heap.size,0,none⟩) (n + m) G) (n + m) (ROW.toList.take ((n + m) * 11)) :=
  ⟨by rw [List.length_take,Array.length_toList,hRl];have:=Nat.mul_le_mul_right 11 hGn;omega,.inr ⟨_,_,ROW,rfl,hb,hN,hGn,hG63,hRl,rfl⟩⟩
 have g1 : Gr w W1:=by rw [hW1];exact (Qb w).trans (Qa _ _)
 obtain ⟨W2,hW2⟩ : ∃ W2,W2 = W1.setCells w.heap.size (i * 11) (Dec.cs x):=⟨_,rfl⟩
 have s3:=Qm (Dec.cs x) _ (i * 11) _ o2
 rw [← hW2] at s3
 have s4:=Qm news _ ((i + m) * 11) _ (show W2.drew.ownsRow B 45 11 (.slice (some ⟨w.heap.size,0,none⟩) (n + m) G) (n + m) _ from s3.1)
 have hc1 : (Builtin.copy_ #[30,30] 3 #[.slice (some ⟨w.heap.size,i * 11,none⟩) (n + m - i) (G - i),.slice (some ⟨vb,0,none⟩) m vc]).run Tryz.prog W1 = .ok (goInt ((m : Nat) : Int)) W2:=by
  rw [hW2]
  exact Zm W1 30 30 3 45 11 w.heap.size _ _ _ _ _ vc (Dec.cs x) Tryz.underlying30 (by rw [hi0];simp [hzs]) m (by simp only [Nat.min_def];split <;> omega) (by rw [elD.hn,hm1,Nat.one_mul])
   (fun j v hj => by rw [Addr.add_lit,Nat.zero_add,g1.cell (by rw [Lib.cell_of_heap hx,List.getElem?_toArray];exact hj) (by simp)])
   (fun j hj => by rw [o2.cellAt _ (by rw [elD.hn] at hj;omega),List.getElem?_eq_getElem (by rw [o2.1];rw [elD.hn] at hj;omega)];rfl)
   (fun j _ => o2.frozenAt _) (elD.h1 x)
 have hc2 : Hid ((Builtin.copy_ #[30,30] 3 #[.slice (some ⟨w.heap.size,(i + m) * 11,none⟩) (n + m - (i + m)) (G - (i + m)),.slice (some ⟨g,off + i * 11,none⟩) (n - i) (c - i)]).run Tryz.prog W2.drew = .ok (goInt ((n - i : Nat) : Int)) (W2.drew.setCells w.heap.size ((i + m) * 11) news)):=by
  exact Zm W2.drew 30 30 3 45 11 w.heap.size _ _ _ _ _ _ news Tryz.underlying30 (by rw [hi0];simp [hzs]) (n - i) (by simp only [Nat.min_def];split <;> omega) hlen
   (fun j v hj => by rw [Addr.add_lit,hof,Nat.zero_add];exact s3.2.cell (g1.cell (hgn j v hj) (by simp)) (by simp only [ne_eq,Option.some.injEq];omega))
   (fun j hj => by
     show (W2.cell? _).isSome = true
     rw [s3.1.cellAt _ (by rw [hlen] at hj;omega),List.getElem?_eq_getElem (by rw [s3.1.1];rw [hlen] at hj;omega)];rfl)
   (fun j _ => s3.1.frozenAt _) h1n
 obtain ⟨W3,hW3⟩ : ∃ W3,W3 = W2.drew.setCells w.heap.size ((i + m) * 11) news:=⟨_,rfl⟩
 have FIN : Hid (OR 45 11 Dec.cs W3 B (.slice (some ⟨w.heap.size,0,none⟩) (n + m) G) (L.take i ++ x :: L.drop i) ∧ Gr w W3):=by
  rw [hW3]
  refine ⟨?_,?_⟩
  ·have e1 : Ye (Ye (ROW.toList.take ((n + m) * 11)) (i * 11) (Dec.cs x)) ((i + m) * 11) news = (L.take i ++ x :: L.drop i).flatMap Dec.cs:=by
    have hl0 : (ROW.toList.take ((n + m) * 11)).length = (n + m) * 11:=o2.1
    rw [Z0 _ (ROW.toList.take ((n + m) * 11)) _ (by rw [elD.hn,hl0];omega),Z0 _ _ _ (by simp only [List.length_append,List.length_take,List.length_drop,hlen,Array.length_toList,hRl,elD.hn];omega)]
    exact Qcp Dec.cs 11 elD.hn L x hi hm1 hl0 (by rw [List.take_take,Nat.min_eq_left (by omega),hRt,holds]) hnews hlen
   have e2 : (L.take i ++ x :: L.drop i).length = n + m:=by simp;omega
   unfold OR
   rw [e2,← e1]
   exact s4.1
  ·have h1 : w.grownBy W1 (some w.heap.size):=World.grownBy.but g1 _
   have h2 : w.grownBy W2 (some w.heap.size):=h1.trans s3.2
   have h3 : w.grownBy (W2.drew.setCells w.heap.size ((i + m) * 11) news) (some w.heap.size):=(h2.trans (World.grownBy.but (Qb W2) _)).trans s4.2
   exact ⟨h3.os,h3.tape,h3.output,h3.size,fun q hq _ => h3.block q hq (by simp only [ne_eq,Option.some.injEq];omega)⟩
 have HC2 : Hid ((Builtin.copy_ #[30,30] 3 #[.slice (some ⟨w.heap.size,(i + m) * 11,none⟩) (n + m - (i + m)) (G - (i + m)),.slice (some ⟨g,off + i * 11,none⟩) (n - i) (c - i)]).run Tryz.prog W2.drew = .ok (goInt ((n - i : Nat) : Int)) W3):=by rw [hW3];exact hc2.out
 have hz1 : ¬ ((m : Int) = 0):=by omega
 have hz2 : ¬ ((i : Int) = (n : Int)):=by omega
 have hz3 : (c : Int) < (n : Int) + (m : Int):=by omega
 have hw1 : IntKind.i64.wrap ((i : Int) + (m : Int)) = (i : Int) + (m : Int):=by rw [IntKind.wrap_i64];omega
 have hb1 : (0 : Int) ≤ (i : Int) + (m : Int):=by omega
 have hin : i ≤ n:=by omega
 have htn : ((i : Int) + (m : Int)).toNat = i + m:=by omega
 have hb3 : (i : Int) ≤ (n : Int):=by omega
 have hGi : ¬ (G = i):=by omega
 have hGim : ¬ (G = i + m):=by omega
 have hci : ¬ (c = i):=by omega
 have hic : i ≤ c:=by omega
 have hG9 : G ≤ 9223372036854775807:=by unfold maxLen at hG63;omega
 have hGm : i + m ≤ G:=by omega
 have hnm : (i : Int) ≤ (n : Int) + (m : Int):=by omega
 obtain ⟨N0,hN0⟩ : ∃ N0,w.heap.size = N0:=⟨_,rfl⟩
 rw [hN0] at hrz hc1 HC2 FIN ⊢
 have HRZ:=Qo0 hrz
 clear hrz hW1 hW2 hW3 o1 o2 s3 s4 hN hRl hRt hROW hzc hik hkk hold hgo hgn hfl holds hol hlen hnews h1n hn o hx hG hof hi0 hz0 hzs hzb hm1 hN0 hb hgl g1 hbig hc2 hG63
 go_enter Tryz.func61,Tryz.ntmps61
 go_wp2_with (at_builtin;refine Lib.wpList_append_run _ rfl _ _ _ _ rfl _ _ rfl rfl _ _ (HRZ.out _) ?_)
 go_region_law (refine step_copy_runI rfl _ _ 30 30 rfl (.slice (some ⟨N0,(i + m) * 11,none⟩) (n + m - (i + m)) (G - (i + m))) (.slice (some ⟨g,off + i * 11,none⟩) (n - i) (c - i)) (by simp [Act.eval,Act.put]) (by simp [Act.eval,Act.put]) HC2.out ?_)
 go_wp2
 go_ret
 exact ⟨_,rfl,FIN.out⟩
attribute [local irreducible] Calls in
set_option maxRecDepth 100000 in
set_option maxHeartbeats 8000000 in
theorem Qnw (B n m vb vc : Nat) (v : Value) (L : List Dec) (x : Dec) (w : World) (o : OR 45 11 Dec.cs w B v L) (hb : B ≤ w.heap.size) (hn : L.length = n) (hl : n ≤ 900000) (hm1 : m = 1) (hx : w.heap[vb]? = some (.cells (Dec.cs x).toArray 45 (0,0))) :
 Calls Tryz.prog 61 #[v,.int .i64 n,.slice (some ⟨vb,0,none⟩) m vc] w fun e w' => ∃ v',e = .returned v' ∧ OR 45 11 Dec.cs w' B v' (L ++ [x]) ∧ w.grownBy w' v.ownBlock ∧ (v'.ownBlock = v.ownBlock ∨ v'.ownBlock = some w.heap.size):=by
 obtain ⟨A,c,rfl,-,hnc,hc9,hA0,hA⟩:=o.form2 elD.hn
 rw [hn] at o hnc ⊢
 have HO:=Qo0 o
 have HX:=Qo0 (show RD 11 Dec.cs w (some ⟨vb,0,none⟩) [x] from Qj elD.hn (by simpa using hx))
 have HL:=Qo0 (show L.length + [x].length ≤ 1000000 from by simp;omega)
 have HB:=Qo0 hb
 have HM:=Qo0 (show [x].length = m from by simp [hm1])
 have hz1 : ¬ ((m : Int) = 0):=by omega
 clear o hx hb hn hm1
 cases A with
 | none =>
   obtain rfl : c = 0:=hA0 rfl
   obtain rfl : n = 0:=by omega
   clear hA0 hA
   go_enter Tryz.func61,Tryz.ntmps61
   go_wp2_with (at_builtin;refine Qf elD rfl (.tmp 23) (.tmp 24) rfl B (v:=.slice none 0 0) rfl HO.out (A:=some ⟨vb,0,none⟩) (M:=[x]) (m:=m) (c:=vc) HM.out rfl HX.out HL.out HB.out ?_;intro v7 w7 o7 g7 b7;have O7:=Qo0 (And.intro o7 (And.intro g7 b7));clear o7 g7 b7)
   go_ret
   exact ⟨_,rfl,O7.out.1,O7.out.2.1,O7.out.2.2⟩
 | some a =>
   obtain ⟨g,hg⟩ : ∃ g,a = ⟨g,0,none⟩:=⟨_,(hA a rfl).2.2⟩
   clear hA0 hA
   subst hg
   by_cases hcn : c = n
   ·subst hcn
    go_enter Tryz.func61,Tryz.ntmps61
    go_wp2_with (at_builtin;refine Qf elD rfl (.tmp 23) (.tmp 24) rfl B (v:=.slice (some ⟨g,0,none⟩) c c) rfl HO.out (A:=some ⟨vb,0,none⟩) (M:=[x]) (m:=m) (c:=vc) HM.out rfl HX.out HL.out HB.out ?_;intro v7 w7 o7 g7 b7;have O7:=Qo0 (And.intro o7 (And.intro g7 b7));clear o7 g7 b7)
    go_ret
    exact ⟨_,rfl,O7.out.1,O7.out.2.1,O7.out.2.2⟩
   ·go_enter Tryz.func61,Tryz.ntmps61
    go_wp2_with (at_builtin;refine Qf elD rfl (.tmp 23) (.tmp 24) rfl B (v:=.slice (some ⟨g,0,none⟩) n c) rfl HO.out (A:=some ⟨vb,0,none⟩) (M:=[x]) (m:=m) (c:=vc) HM.out rfl HX.out HL.out HB.out ?_;intro v7 w7 o7 g7 b7;have O7:=Qo0 (And.intro o7 (And.intro g7 b7));clear o7 g7 b7)
    go_ret
    exact ⟨_,rfl,O7.out.1,O7.out.2.1,O7.out.2.2⟩
theorem Qnx (B i vb : Nat) (v : Value) (L : List Dec) (x : Dec) (w : World) (o : OR 45 11 Dec.cs w B v L) (hb : B ≤ w.heap.size) (hi : i ≤ L.length) (hl : L.length ≤ 900000) (hx : w.heap[vb]? = some (.cells (Dec.cs x).toArray 45 (0,0))) (hne : v.ownBlock ≠ some vb) :
 Calls Tryz.prog 61 #[v,.int .i64 i,.slice (some ⟨vb,0,none⟩) 1 1] w fun e w' => ∃ v',e = .returned v' ∧ OR 45 11 Dec.cs w' B v' (L.take i ++ x :: L.drop i) ∧ w.grownBy w' v.ownBlock ∧ (v'.ownBlock = v.ownBlock ∨ v'.ownBlock = some w.heap.size):=by
 by_cases hin : i = L.length
 ·subst hin
  rw [List.take_length,List.drop_length]
  exact Qnw B L.length 1 vb 1 v L x w o hb rfl hl rfl hx
 ·obtain ⟨A,c,rfl,-,hnc,hc9,hA0,hA⟩:=o.form2 elD.hn
  cases A with
  | none => have:=hA0 rfl;omega
  | some a =>
    obtain ⟨-,h2,e3⟩ : B ≤ a.block ∧ a.block < w.heap.size ∧ a = ⟨a.block,0,none⟩:=hA a rfl
    rw [e3] at o hne ⊢
    by_cases hr : L.length + 1 ≤ c
    ·refine (Qih B a.block 0 L.length c i 1 vb 1 L x w rfl o rfl (by omega) rfl hr hc9 hx (fun h => hne (by rw [h];rfl))).mono ?_
     rintro e w' ⟨rfl,h3,h4⟩
     exact ⟨_,rfl,h3,h4,.inl rfl⟩
    ·refine (Qls B a.block 0 L.length c i 1 vb 1 L x w rfl o hb rfl (by omega) rfl hnc (by omega) (by omega) hx).mono ?_
     rintro e w' ⟨G,rfl,h3,h4⟩
     exact ⟨_,rfl,h3,World.grownBy.but h4 _,.inr rfl⟩
end Go.Proofs.YtiaenhlflgobfaaGreatDoor
