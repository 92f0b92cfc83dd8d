/- Words. -/
import Derived.Test.YtiaenhlflgobfaaGreatDoorTb20
import Derived.Deep.RegionLaw
namespace Go.Proofs.YtiaenhlflgobfaaGreatDoor
open Go.RowKit
theorem Qi2 {B g cap n : Nat} {xs : List Value} {V : World} (h : V.ownsRow B 45 11 (.slice (some ⟨g,0,none⟩) n cap) n xs) (o : Nat) (ho : o + 11 ≤ n * 11) (ty : TypeId) (c : Nat) : ∃ vs,(Builtin.clear_ #[30] ty #[.slice (some ⟨g,o,none⟩) 1 c]).run Tryz.prog V = .ok (.tuple #[]) (V.setCells g o vs):=by
 have hl:=h.1
 have hz : ∀ W,(zeroValue 45).run Tryz.prog W = .ok (.agg #[iv 0,iv 0,.bool false,.slice none 0 0,.bool false,iv 0,.string ⟨#[]⟩,.string ⟨#[]⟩,iv 0,iv 0,.slice none 0 0]) W:=Tryz.zeroValue45
 obtain ⟨vs,hvs⟩ : ∃ vs,(Builtin.zeroCells (Value.cells (.agg #[iv 0,iv 0,.bool false,.slice none 0 0,.bool false,iv 0,.string ⟨#[]⟩,.string ⟨#[]⟩,iv 0,iv 0,.slice none 0 0])) 1).toList = vs:=⟨_,rfl⟩
 have hlen : vs.length = 11:=by rw [← hvs];simp [Builtin.zeroCells,Value.cells]
 have h1 : ∀ v ∈ vs,v.oneCell' = true:=by
  intro v hv
  rw [← hvs] at hv
  simp [Builtin.zeroCells,Value.cells] at hv
  obtain ⟨a,_,rfl⟩:=hv
  have h3 : a % 11 < 11:=Nat.mod_lt _ (by omega)
  generalize a % 11 = q at h3
  rcases q with _ | _ | _ | _ | _ | _ | _ | _ | _ | _ | _ | q
  ·rfl
  ·rfl
  ·rfl
  ·rfl
  ·rfl
  ·rfl
  ·rfl
  ·rfl
  ·rfl
  ·rfl
  ·rfl
  ·omega
 have hst:=run_storeCells_cells (P:=Tryz.prog) g o vs 0 V (fun j hj => by
  rw [Nat.add_zero]
  rw [h.cellAt _ (by omega)]
  rw [List.getElem?_eq_getElem (by omega)]
  rfl) (fun j _ => h.frozenAt _) h1
 simp only [Nat.add_zero] at hst
 refine ⟨vs,?_⟩
 simp [Builtin.clear_,run_underlying Tryz.underlying30,hz,hvs,hst]
attribute [local irreducible] Calls in
set_option maxRecDepth 100000 in
set_option maxHeartbeats 8000000 in
theorem Qmd (B g off cap n i j : Nat) (L : List Dec) (w : World) (hof : off = 0) (o : OR 45 11 Dec.cs w B (.slice (some ⟨g,0,none⟩) n cap) L) (hn : L.length = n) (hi : i < n) (hj : j = i + 1) (hc : n ≤ cap) (hm : cap ≤ 9223372036854775807) :
 Calls Tryz.prog 107 #[.slice (some ⟨g,off,none⟩) n cap,.int .i64 i,.int .i64 j] w fun e w' => e = .returned (.slice (some ⟨g,off,none⟩) (n - 1) cap) ∧ OR 45 11 Dec.cs w' B (.slice (some ⟨g,0,none⟩) (n - 1) cap) (L.eraseIdx i) ∧ w.grownBy w' (some g):=by
 obtain ⟨i0,hi0,hz0,hz1,hz2⟩:=info_parts (show (Tryz.prog.info? 45).map (fun i => (i.zero,i.size,i.bytes)) = some (some (.agg #[iv 0,iv 0,.bool false,.slice none 0 0,.bool false,iv 0,.string ⟨#[]⟩,.string ⟨#[]⟩,iv 0,iv 0,.slice none 0 0]),11,136) by kernel_rfl)
 obtain ⟨news,hnews⟩ : ∃ news,news = (L.drop j).flatMap Dec.cs:=⟨_,rfl⟩
 have hlen : news.length = (n - j) * 11:=by rw [hnews,Qk Dec.cs 11 (fun _ => rfl),List.length_drop,hn]
 have o1 : w.drew.ownsRow B 45 11 (.slice (some ⟨g,0,none⟩) n cap) n (L.flatMap Dec.cs):=by have h:=o.gr (Qb w);unfold OR at h;rwa [hn] at h
 have hfl : (L.flatMap Dec.cs).length = n * 11:=by rw [Qk Dec.cs 11 (fun _ => rfl),hn]
 have hget : ∀ t u,news[t]? = some u → w.drew.cell? ⟨g,j * 11 + t,none⟩ = some u:=by
  intro t u hu
  have ht:=(List.getElem?_eq_some_iff.1 hu).1
  rw [o1.cellAt (j * 11 + t) (by omega)]
  have e : L.flatMap Dec.cs = (L.take j).flatMap Dec.cs ++ news:=by rw [hnews,← List.flatMap_append,List.take_append_drop]
  rw [e,List.getElem?_append_right (by rw [Qk Dec.cs 11 (fun _ => rfl),List.length_take,hn];omega),Qk Dec.cs 11 (fun _ => rfl),List.length_take,hn,Nat.min_eq_left (by omega),Nat.add_sub_cancel_left]
  exact hu
 obtain ⟨A,hA,hsrc⟩ : ∃ A : Addr,(if cap = j then some (⟨g,off,none⟩ : Addr) else some ⟨g,off + j * 11,none⟩) = some A ∧ Hid (∀ t u,news[t]? = some u → w.drew.cell? (A.add t) = some u):=by
  by_cases h : cap = j
  ·refine ⟨⟨g,off,none⟩,by simp [h],fun t u hu => ?_⟩
   have h0 : news.length = 0:=by rw [hlen];omega
   rw [List.length_eq_zero_iff.1 h0] at hu
   simp at hu
  ·refine ⟨⟨g,off + j * 11,none⟩,by simp [h],fun t u hu => ?_⟩
   rw [Addr.add_lit,hof,Nat.zero_add]
   exact hget t u hu
 have s1 : Hid (news.length = (n - j) * 11):=hlen
 have s2 : Hid (∀ u ∈ news,u.oneCell' = true):=by
  intro u hu
  rw [hnews] at hu
  obtain ⟨x,_,hx⟩:=List.mem_flatMap.1 hu
  exact elD.h1 x u hx
 have s3 : Hid (∀ t,t < news.length → (w.drew.cell? ⟨g,off + i * 11 + t,none⟩).isSome = true ∧ w.drew.frozen? ⟨g,off + i * 11 + t,none⟩ = false):=by
  intro t ht
  rw [hlen] at ht
  rw [hof,Nat.zero_add]
  refine ⟨?_,o1.frozenAt _⟩
  rw [o1.cellAt _ (by omega),List.getElem?_eq_getElem (by rw [hfl];omega)]
  rfl
 obtain ⟨W1,hW1⟩ : ∃ W1,W1 = w.drew.setCells g (off + i * 11) news:=⟨_,rfl⟩
 have o2 : W1.ownsRow B 45 11 (.slice (some ⟨g,0,none⟩) n cap) n (Ye (L.flatMap Dec.cs) (i * 11) news):=by rw [hW1,hof,Nat.zero_add];exact (Qm news _ (i * 11) _ o1).1
 have FIN : Hid (∀ vs,OR 45 11 Dec.cs (W1.setCells g (off + (i + (n - j)) * 11) vs) B (.slice (some ⟨g,0,none⟩) (n - 1) cap) (L.eraseIdx i) ∧ w.grownBy (W1.setCells g (off + (i + (n - j)) * 11) vs) (some g)):=fun vs => by
  have h:=Qde (cs:=Dec.cs) (k:=11) (fun _ => rfl) (o.gr (Qb w)) hn hi vs
  rw [hW1,hof,Nat.zero_add,Nat.zero_add,hnews,hj,show i + (n - (i + 1)) = n - 1 from by omega]
  exact ⟨h.1,(World.grownBy.but (Qb w) _).trans h.2⟩
 obtain ⟨k1,hk1⟩ : ∃ k,k = i + (n - j):=⟨_,rfl⟩
 have hcl : ∀ ty c,∃ vs,(Builtin.clear_ #[30] ty #[.slice (some ⟨g,off + k1 * 11,none⟩) (n - k1) c]).run Tryz.prog W1 = .ok (.tuple #[]) (W1.setCells g (off + k1 * 11) vs):=fun ty c => by
  have h:=Qi2 o2 (k1 * 11) (by omega) ty c
  rw [hof,Nat.zero_add,show n - k1 = 1 from by omega]
  exact h
 have HCL:=Qo0 hcl
 have hW : Hid (W1 = w.drew.setCells g (off + i * 11) news):=hW1
 have HK:=Qo0 hk1
 have hic : i ≤ cap:=by omega
 have hjc : j ≤ cap:=by omega
 have hij : i < j:=by omega
 have hij2 : i ≤ j:=by omega
 have hin : i ≤ n:=by omega
 have hjn : j ≤ n:=by omega
 have hsum : i + (n - j) ≤ cap:=by omega
 have hkn : i + (n - j) = n - 1:=by omega
 have HJ:=Qo0 (show j = i + 1 ∧ i + (n - j) = n - 1 from ⟨hj,hkn⟩)
 clear hW1 hcl o2 o1 hget hnews hlen hfl o hn hk1 hof hj hkn
 go_enter Tryz.func107,Tryz.ntmps107
 go_wp2_with fail
 go_region_law (refine step_append_room rfl (.tmp 22) (.tmp 25) 30 rfl 45 i0 11 Tryz.underlying30 hi0 hz1 g off i cap (by simp [Act.eval,Act.put]) A (n - j) (cap - j) news (by simp [Act.eval,Act.put]) s1.out hsrc.out s2.out (by omega) s3.out ?_;rw [← hW.out])
 rw [← HK.out]
 have k2 : k1 < n:=by have:=HK.out;have:=HJ.out;omega
 have k3 : k1 < cap:=by omega
 have k4 : k1 ≤ cap:=by omega
 have k5 : k1 ≤ n:=by omega
 clear hsum
 obtain ⟨vs,hvs⟩:=HCL.out 0 (cap - k1)
 go_wp2
 go_ret
 have e1 : n - 1 = k1:=by have:=HK.out;have:=HJ.out;omega
 have F:=FIN.out vs
 rw [← HK.out] at F
 rw [e1] at F ⊢
 exact ⟨rfl,F⟩
theorem Qoi (B i : Nat) (z : Int) (v : Value) (L : List Dec) (w : World) (o : OR 45 11 Dec.cs w B v L) (hi : i < L.length) (hz : z = (i : Int) + 1) :
 Calls Tryz.prog 107 #[v,.int .i64 i,.int .i64 z] w fun e w' => ∃ v',e = .returned v' ∧ OR 45 11 Dec.cs w' B v' (L.eraseIdx i) ∧ w.grownBy w' v.ownBlock ∧ v'.ownBlock = v.ownBlock:=by
 have e : z = ((i + 1 : Nat) : Int):=by omega
 subst e
 obtain ⟨A,c,rfl,-,hnc,hc9,hA0,hA⟩:=o.form2 elD.hn
 cases A with
 | none => have:=hA0 rfl;omega
 | some a =>
   obtain ⟨-,h2,e3⟩ : B ≤ a.block ∧ a.block < w.heap.size ∧ a = ⟨a.block,0,none⟩:=hA a rfl
   rw [e3] at o ⊢
   refine (Qmd B a.block 0 c L.length i (i + 1) L w rfl o rfl hi rfl hnc hc9).mono ?_
   rintro e w' ⟨rfl,h3,h4⟩
   exact ⟨_,rfl,h3,h4,rfl⟩
end Go.Proofs.YtiaenhlflgobfaaGreatDoor
