/- A part of the proof of EffectAdds: contracts of functions, and plain facts. -/
import Derived.Test.YtbeojahilbglcaaGreatDoorQdMag5
set_option maxRecDepth 20000
set_option maxHeartbeats 8000000
set_option linter.unusedVariables false
set_option linter.unusedSimpArgs false
namespace Lum
open Go Go.RowKit Go.Shelf
def gss (m d L k:Nat):Nat:=min ((wd m (L + k) * B9 + wd m (L + k - 1)) / wd d (L - 1)) (B9 - 1)
end Lum
namespace Go.Proofs.YtbeojahilbglcaaGreatDoor
open Go.RowKit Go.Shelf Lum
attribute [local go_sem] bs_get bs_extract_end bs_extract_from bs_extract bs_append
theorem mag_guess (p1 p2 : Option Addr) (n1 c1 n2 c2 m d k : Nat) (w : World) (h1 : MagAt w p1 n1 c1 m) (h2 : MagAt w p2 n2 c2 d) (hn1 : n1 ≤ 100000) (hn2 : n2 ≤ 100000) (hk : k ≤ 100000) (h0 : 0 < n2) (hd0 : 0 < wd d (n2 - 1)) :
    Calls Tryz.prog 230 #[.slice p1 n1 c1,.slice p2 n2 c2,.int .i64 (k:Int)] w fun e w' => e = .returned (.int .u64 (gss m d n2 k:Nat)) ∧ Below w.heap.size w w':=by
  obtain ⟨b,o,rfl,hb,hcs⟩:=h2.cells h0
  obtain ⟨T,hT⟩:∃ T,T = n2 + k:=⟨_,rfl⟩
  obtain ⟨S,hS⟩:∃ S,S = T - 1:=⟨_,rfl⟩
  obtain ⟨U,hU⟩:∃ U,U = n2 - 1:=⟨_,rfl⟩
  have hc:=hcs (n2 - 1) (by omega)
  have hg:gss m d n2 k = min ((wd m (n2 + k) * 1000000000 + wd m (n2 + k - 1)) / wd d (n2 - 1)) 999999999:=rfl
  rw [← hT,← hS,← hU] at hg
  rw [← hU] at hc hd0
  clear hcs
  have A:∀ (i x:Nat),Hid (wd m i = x ∧ i ≤ 1000000) → ∀ j,Calls Tryz.prog 253 #[.slice p1 n1 c1,.int .i64 (i:Int)] (w.drewN j) fun e w' => e = .returned (.int .u64 (x:Nat)) ∧ w' = w.drewN j:=fun i x hx j => by
    have:=hx.out.1;subst this
    exact (mag_at p1 n1 c1 m i (w.drewN j) (h1.below (below_drewN (Below.refl _ w) j)) (by omega) hx.out.2).mono (fun e w' h => ⟨h.1,h.2.symm⟩)
  have U1:Hid (wd m T = wd m T ∧ T ≤ 1000000):=⟨rfl,by omega⟩
  have U2:Hid (wd m S = wd m S ∧ S ≤ 1000000):=⟨rfl,by omega⟩
  have x1:=wd_lt m T
  have x2:=wd_lt m S
  have x3:=wd_lt d U
  generalize gss m d n2 k = g at *
  generalize huu:wd m T = u at *
  generalize hvv:wd m S = v at *
  have U3:Hid (wd m T = u ∧ T ≤ 1000000):=⟨huu,by omega⟩
  have U4:Hid (wd m S = v ∧ S ≤ 1000000):=⟨hvv,by omega⟩
  clear U1 U2 huu hvv
  have HA:=Lib.hid A;clear A
  generalize wd d U = t at *
  obtain ⟨z,hz⟩:∃ z,z = u * 1000000000 + v:=⟨_,rfl⟩
  rw [← hz] at hg
  have hzl:z < 1000000000000000000:=by omega
  obtain ⟨q,hq⟩:∃ q,q = z / t:=⟨_,rfl⟩
  rw [← hq] at hg
  have hql:q < 1000000000000000000:=by rw [hq];exact Nat.lt_of_le_of_lt (Nat.div_le_self _ _) hzl
  have hq1:(z:Int).tdiv (t:Int) = (q:Int):=by rw [Int.tdiv_eq_ediv_of_nonneg (by omega),hq];simp
  have hq2:(z:Int) / (t:Int) = (q:Int):=by rw [hq];simp
  have hTi:(n2:Int) + (k:Int) = (T:Int):=by omega
  have hSi:(T:Int) - 1 = (S:Int):=by omega
  have hUi:(n2:Int) - 1 = (U:Int):=by omega
  have hT9:(T:Int) < 1000000:=by omega
  have hS9:(S:Int) < 1000000:=by omega
  have hUn:(U:Int) < (n2:Int):=by omega
  have hzi:(u:Int) * 1000000000 + (v:Int) = (z:Int):=by omega
  have hgc:(¬ (999999999:Int) < (q:Int) ∧ g = q) ∨ ((999999999:Int) < (q:Int) ∧ g = 999999999):=by omega
  have hz1:IntKind.u64.wrap ((u:Int) * 1000000000) = (u:Int) * 1000000000:=IntWalk.u64_in _ (by omega)
  have hz2:IntKind.u64.wrap (z:Int) = (z:Int):=IntWalk.u64_in _ (by omega)
  have hqw:IntKind.u64.wrap (q:Int) = (q:Int):=IntWalk.u64_in _ (by omega)
  have htz:¬ t = 0:=by omega
  have hSw:IntKind.i64.wrap (S:Int) = (S:Int):=IntWalk.i64_in _ (by omega)
  have hUw:IntKind.i64.wrap (U:Int) = (U:Int):=IntWalk.i64_in _ (by omega)
  have hTw:IntKind.i64.wrap (T:Int) = (T:Int):=IntWalk.i64_in _ (by omega)
  have HG:=Lib.hid hg;clear hg
  have HZ:=Lib.hid hz;clear hz
  have HQ:=Lib.hid hq;clear hq
  have H1:=Lib.hid h1;clear h1 h2
  clear hT hS hU
  rcases hgc with ⟨hlt,hgq⟩ | ⟨hlt,hgq⟩
  all_goals
    have hgi:(g:Int) = _:=congrArg Nat.cast hgq
    have HGI:=Lib.hid hgi;clear hgi hgq
    go_enter Tryz.func230,Tryz.ntmps230
    go_wp2
    go_quiet ((go_at_call 253;exact Calls.quiet_of_same (HA.out _ _ (by assumption) _)))
    clear hz1 hz2 hqw hSw hUw hTw
    go_wp2
    go_ret
    exact ⟨ret_int (by first | exact HGI.out.symm | (rw [HGI.out];rfl)),below_drewN (Below.refl _ w) _⟩
end Go.Proofs.YtbeojahilbglcaaGreatDoor
namespace Lum
open Go Go.RowKit Go.Shelf
theorem wpList_makeO {P : Program} (w : World) {ops : Array Oper} {rest : List Oper} {o : Oper} {a : Act} {Q : Exit → Act → World → Prop}
    (hg:o.guard = none) (l c:Operand) (t:TypeId) (hop:o.op = Op.makeSlice t l c)
    (k:IntKind) (base:Nat) (e:TypeId) (i:TypeInfo) (h1:P.underlying t = some (.slice e)) (h2:P.info? e = some i) (h3:i.zero = some (.int k 0)) (h4:i.size = 1) (h5:i.bytes ≤ 16)
    (kl kc:IntKind) (L C:Int) (n:Nat) (hl:a.eval l = .int kl L) (hc:a.eval c = .int kc C) (hL:L = (n:Int)) (hC:C = (n:Int)) (hn:n ≤ 1000000000) (b4:base ≤ w.heap.size)
    (hK:∀ w',OwnN k base e w' (Option.some ⟨w.heap.size,0,none⟩) n (List.replicate n 0) → Below w.heap.size w w' → wpList P ops Q rest (a.put o.dst (.slice (Option.some ⟨w.heap.size,0,none⟩) n n)) w') :
    wpList P ops Q (o :: rest) a w:=by
  refine wpList_make_full w hg l c t hop base e i (.int k 0) 1 h1 h2 h3 h4 kl kc L C n hl hc hL hC ?_ (by unfold maxLen;omega) b4 ?_
  · have:i.bytes * n ≤ 16 * 1000000000:=Nat.mul_le_mul h5 hn
    omega
  · intro w' hown hgrow
    refine hK w' ?_ ((Below.refl _ w).grown hgrow (Nat.le_refl _) (fun k hk => by cases hk))
    unfold OwnN OwnL
    rw [List.length_map,List.length_replicate]
    have e1:(madeCells (Value.int k 0).cells (n * 1)).toList = (List.replicate n 0).map fun d:Nat => Value.int k (d:Int):=by
      rw [Nat.mul_one,List.map_replicate];exact madeCells_one _ _
    rw [← e1];exact hown
theorem NatsAt.grown {k:IntKind} {W w':World} {v:Value} {ws:List Nat} (h:NatsAt k W v ws) {row:Option Nat} (hg:W.grownBy w' row) (hne:∀ b o L C,v = .slice (Option.some ⟨b,o,none⟩) L C → Option.some b ≠ row):NatsAt k w' v ws:=by
  rcases h with h | ⟨b,of,c,e,h1,h2,h3,h4⟩
  · exact .inl h
  · refine .inr ⟨b,of,c,e,Nat.lt_of_lt_of_le h1 hg.size,h2,h3,fun j hj => ?_⟩
    rw [← h4 j hj]
    exact World.cell?_of_block (hg.block b h1 (hne _ _ _ _ e))
theorem wpList_appNs {P : Program} {ops : Array Oper} {rest : List Oper} {o : Oper} {a : Act} {Q : Exit → Act → World → Prop} (hgd : o.guard = none) (s x : Operand) (t : TypeId)
    (ho:o.op = .call { callee:=.builtin .append,args:=#[s,x],argTypes:=#[t,t] })
    (k:IntKind) (base:Nat) (e:TypeId) (i:TypeInfo) (z:Value) (bytes:Nat) (ht:P.underlying t = some (.slice e)) (hi:P.info? e = some i) (hz:i.zero = some z)
    (hsize:i.size = 1) (hby:i.bytes = bytes) (hzs:z.cells.size = 1) (hbs:bytes ≤ 16)
    (p:Option Addr) (c:Nat) (ws:List Nat) (W:World) (p2:Option Addr) (n2 c2:Nat) (ys:List Nat) (hs:a.eval s = .slice p ws.length c) (hown:OwnN k base e W p c ws)
    (hx:a.eval x = .slice p2 n2 c2) (hy:NatsAt k W (.slice p2 n2 c2) ys) (hy0:0 < ys.length)
    (hn:ws.length + ys.length < 1000000000) (hbase:base ≤ W.heap.size)
    (h:∀ p' c' w',OwnN k base e w' p' c' (ws ++ ys) → Below base W w' → (∀ k' v us,NatsAt k' W v us → (∀ b o L C ad,v = .slice (Option.some ⟨b,o,none⟩) L C → p = Option.some ad → b ≠ ad.block) → NatsAt k' w' v us) → wpList P ops Q rest (a.put o.dst (.slice p' (ws.length + ys.length) c')) w') :
    wpList P ops Q (o :: rest) a W:=by
  obtain ⟨b,of,rfl⟩:=hy.some hy0
  obtain ⟨h1,h2,h3⟩:=hy.cell
  have hown':W.ownsRow base e 1 (.slice p ws.length c) ws.length (ws.map fun d:Nat => Value.int k (d:Int)):=by
    have:=hown;unfold OwnN OwnL at this;rwa [List.length_map] at this
  refine wpList_append_own _ hgd s x t ho base e i z 1 bytes ht hi hz hsize hby hzs (by decide) _ _ _ hs hown' ⟨b, of, none⟩ n2 c2 (ys.map fun d : Nat => Value.int k (d : Int)) hx (by simp [h2])
    (fun j u hu => by
      simp at hu
      obtain ⟨d,hd,rfl⟩:=hu
      have hj:j < ys.length:=(List.getElem?_eq_some_iff.1 hd).1
      rw [addr_add,h3 j hj,hd];rfl)
    (fun u hu => by simp at hu;obtain ⟨d,_,rfl⟩:=hu;rfl) (by unfold maxLen;omega) ?_ hbase ?_
  · have:(ws.length + n2) * bytes ≤ 1000000001 * 16:=Nat.mul_le_mul (by omega) hbs
    omega
  · intro v' w' hown' hgrow _
    obtain ⟨p',c',rfl⟩:=ownsRow_slice hown'
    rw [h2]
    refine h p' c' w' ?_ ?_ ?_
    · unfold OwnN OwnL
      rw [List.map_append,List.length_append,List.length_map,List.length_map]
      rw [h2] at hown';exact hown'
    · refine (Below.refl base W).grown hgrow hbase ?_
      intro k hk
      cases p with
      | none => simp [Value.ownBlock] at hk
      | some ad => simp [Value.ownBlock] at hk;subst hk;exact (OwnL.lt hown ad rfl).1
    · intro k' v us hv hne
      refine hv.grown hgrow ?_
      intro b o L C e1 e2
      cases p with
      | none => simp [Value.ownBlock] at e2
      | some ad => simp [Value.ownBlock] at e2;exact hne b o L C ad e1 rfl e2
theorem nats_one (k:IntKind) (e:TypeId) (W:World) (d:Nat):NatsAt k (W.alloc (.cells #[.int k (d:Int)] e)) (.slice (Option.some ⟨W.heap.size,0,none⟩) 1 1) [d] :=
  .inr ⟨W.heap.size,0,1,rfl,by simp,by simp,by unfold maxLen;omega,fun j hj => by
    simp at hj;subst hj
    exact cell_one_new W _ e 0 _ rfl⟩
theorem magL_one (s:Nat) (h0:0 < s) (h:s < B9):magL s = [s]:=by
  rw [magL_pos (by omega),Nat.mod_eq_of_lt h,Nat.div_eq_of_lt h,magL_zero]
theorem magL_shift (d k:Nat) (h:d ≠ 0):magL (d * B9 ^ k) = List.replicate k 0 ++ magL d:=by
  induction k with
  | zero => simp
  | succ k ih =>
    have hp:0 < B9 ^ k:=Nat.pow_pos B9_pos
    have hne:d * B9 ^ (k + 1) ≠ 0:=by
      have:=Nat.mul_pos (Nat.pos_of_ne_zero h) (Nat.pow_pos B9_pos:0 < B9 ^ (k + 1));omega
    rw [magL_pos hne,Nat.pow_succ,← Nat.mul_assoc,Nat.mul_mod_left,Nat.mul_div_cancel _ B9_pos,ih]
    rfl
theorem mv_one (d:Nat):mv B9 [d] = d:=by simp [mv]
theorem div_start (R D L:Nat) (hD:D ≠ 0) (hL:(magL R).length = L):R < D * B9 ^ (L - (magL D).length + 1) ∨ (magL R).length < (magL D).length:=by
  by_cases h:L < (magL D).length
  · right;omega
  · left
    have h1:=lt_len R
    have h2:=magL_top D hD
    rw [hL] at h1
    refine Nat.lt_of_lt_of_le h1 ?_
    have h3:B9 ^ ((magL D).length - 1) * B9 ^ (L - (magL D).length + 1) = B9 ^ L:=by
      rw [← Nat.pow_add];congr 1;have:=magL_ne D hD;omega
    rw [← h3]
    exact Nat.mul_le_mul_right _ h2
theorem scale_ok (d n:Nat) (hd:d ≠ 0) (hn:n = (magL d).length):wd d (n - 1) + 1 ≤ B9 ∧ 0 < wd d (n - 1) ∧ d * (B9 / (wd d (n - 1) + 1)) < B9 ^ n:=by
  have hn0:0 < n:=by rw [hn];exact magL_ne d hd
  have htop:=magL_top d hd
  have hlt:=lt_len d
  rw [← hn] at htop hlt
  have hp:0 < B9 ^ (n - 1):=Nat.pow_pos B9_pos
  have e:wd d (n - 1) = d / B9 ^ (n - 1):=by
    unfold wd
    refine Nat.mod_eq_of_lt ?_
    rw [Nat.div_lt_iff_lt_mul hp,Nat.mul_comm,← Nat.pow_succ,show (n - 1).succ = n by omega];exact hlt
  have h1:0 < wd d (n - 1):=by rw [e];exact Nat.div_pos htop hp
  have h2:wd d (n - 1) < B9:=Nat.mod_lt _ B9_pos
  refine ⟨h2,h1,?_⟩
  have h3:d < (wd d (n - 1) + 1) * B9 ^ (n - 1):=by
    rw [e];exact (Nat.div_lt_iff_lt_mul hp).1 (Nat.lt_succ_self _)
  have hs:0 < B9 / (wd d (n - 1) + 1):=Nat.div_pos (by omega) (by omega)
  have h4:=Nat.mul_div_le B9 (wd d (n - 1) + 1)
  have h5:d * (B9 / (wd d (n - 1) + 1)) < (wd d (n - 1) + 1) * B9 ^ (n - 1) * (B9 / (wd d (n - 1) + 1)):=Nat.mul_lt_mul_of_pos_right h3 hs
  refine Nat.lt_of_lt_of_le h5 ?_
  have h6:(wd d (n - 1) + 1) * B9 ^ (n - 1) * (B9 / (wd d (n - 1) + 1)) = ((wd d (n - 1) + 1) * (B9 / (wd d (n - 1) + 1))) * B9 ^ (n - 1):=by grind
  rw [h6]
  have h7:B9 ^ n = B9 * B9 ^ (n - 1):=by rw [Nat.mul_comm,← Nat.pow_succ,show (n - 1).succ = n by omega]
  rw [h7]
  exact Nat.mul_le_mul_right _ h4
theorem gss_ge (R D k L:Nat) (hL:(magL D).length = L) (hD:D ≠ 0) (hR:R < D * B9 ^ (k + 1)):R / (D * B9 ^ k) ≤ gss R D L k:=by
  have hL0:1 ≤ L:=by rw [← hL];exact magL_ne D hD
  have htop:=magL_top D hD
  have hlt:=lt_len D
  rw [hL] at htop hlt
  have h:=guess_ge B9 R D k L B9_pos hL0 htop hR
  have e1:wd D (L - 1) = D / B9 ^ (L - 1):=by
    unfold wd
    refine Nat.mod_eq_of_lt ?_
    rw [Nat.div_lt_iff_lt_mul (Nat.pow_pos B9_pos),Nat.mul_comm,← Nat.pow_succ,show (L - 1).succ = L by omega];exact hlt
  have hR2:R < B9 ^ (L + k + 1):=by
    refine Nat.lt_of_lt_of_le hR ?_
    rw [show L + k + 1 = L + (k + 1) by omega,Nat.pow_add B9 L (k + 1)]
    exact Nat.mul_le_mul_right _ (Nat.le_of_lt hlt)
  have e2:=two_words B9 R (L + k) B9_pos (by omega) hR2
  unfold gss
  rw [show wd R (L + k) * B9 + wd R (L + k - 1) = R / B9 ^ (L + k - 1) from e2,e1]
  exact h
theorem word_small (R D k:Nat) (hD:D ≠ 0) (hR:R < D * B9 ^ (k + 1)):R / (D * B9 ^ k) < B9:=by
  rw [Nat.div_lt_iff_lt_mul (Nat.mul_pos (Nat.pos_of_ne_zero hD) (Nat.pow_pos B9_pos))]
  rw [Nat.pow_succ] at hR;grind
theorem round_ok (R0 R D k Q : Nat) (hD : D ≠ 0) (hR : R < D * B9 ^ (k + 1)) (hQ : R0 = Q * (B9 ^ (k + 1) * D) + R) :
    R - D * B9 ^ k * (R / (D * B9 ^ k)) < D * B9 ^ k ∧ R0 = (R / (D * B9 ^ k) + B9 * Q) * (B9 ^ k * D) + (R - D * B9 ^ k * (R / (D * B9 ^ k))):=by
  have hp:0 < D * B9 ^ k:=Nat.mul_pos (Nat.pos_of_ne_zero hD) (Nat.pow_pos B9_pos)
  have h1:=Nat.div_add_mod R (D * B9 ^ k)
  have h2:=Nat.mod_lt R hp
  have h3:R - D * B9 ^ k * (R / (D * B9 ^ k)) = R % (D * B9 ^ k):=by omega
  rw [h3]
  refine ⟨h2,?_⟩
  rw [hQ,Nat.pow_succ]
  conv => lhs;rw [← h1]
  grind
theorem div_end (m d s Q R:Nat) (hs:0 < s) (hd:d ≠ 0) (h1:m * s = Q * (d * s) + R) (h2:R < d * s):Q = m / d ∧ R / s = m % d:=by
  have hds:0 < d * s:=Nat.mul_pos (Nat.pos_of_ne_zero hd) hs
  have e1:m * s / (d * s) = Q:=by rw [h1,Nat.mul_comm Q,Nat.mul_add_div hds,Nat.div_eq_of_lt h2];rfl
  have e2:m * s % (d * s) = R:=by rw [h1,Nat.mul_comm Q,Nat.mul_add_mod,Nat.mod_eq_of_lt h2]
  rw [Nat.mul_div_mul_right _ _ hs] at e1
  rw [Nat.mul_mod_mul_right] at e2
  exact ⟨e1.symm,by rw [← e2,Nat.mul_div_cancel _ hs]⟩
theorem rev_end (qs zs:List Nat) (hl:zs.length = qs.length) (h:∀ j,j < qs.length → zs[qs.length - 1 - j]? = qs[j]?):zs = qs.reverse:=by
  apply List.ext_getElem?
  intro n
  by_cases hn:n < qs.length
  · have:=h (qs.length - 1 - n) (by omega)
    rw [show qs.length - 1 - (qs.length - 1 - n) = n by omega] at this
    rw [this,List.getElem?_reverse hn]
  · rw [List.getElem?_eq_none (by omega),List.getElem?_eq_none (by simp;omega)]
theorem rev_step (qs zs : List Nat) (i : Nat) (hl : zs.length = qs.length) (hi : i < qs.length) (h : ∀ j, j < i → zs[qs.length - 1 - j]? = qs[j]?) :
    ∀ j,j < i + 1 → (zs.set (qs.length - 1 - i) (qs[i]?.getD 0))[qs.length - 1 - j]? = qs[j]?:=by
  intro j hj
  by_cases e:j = i
  · subst e
    rw [List.getElem?_set_self (by omega)];simp [hi]
  · rw [List.getElem?_set_ne (by omega)];exact h j (by omega)
theorem gss_lt (m d L k:Nat):gss m d L k < 1000000000:=Nat.lt_of_le_of_lt (Nat.min_le_right _ _) (by decide)
theorem prod_len (x q K:Nat) (hq:q < B9) (hx:(magL x).length ≤ K):(magL (x * q)).length ≤ K + 1:=by
  rw [magL_len,Nat.pow_succ]
  exact Nat.mul_lt_mul_of_lt_of_lt (below_len x K hx) hq
end Lum
namespace Go.Proofs.YtbeojahilbglcaaGreatDoor
open Go.RowKit Go.Shelf Lum
attribute [local go_sem] bs_get bs_extract_end bs_extract_from bs_extract bs_append
theorem mag_divided_small (p1 p2 : Option Addr) (n1 c1 n2 c2 m d : Nat) (w : World) (h1 : MagAt w p1 n1 c1 m) (h2 : MagAt w p2 n2 c2 d) (hn1 : n1 ≤ 20000) (hn2 : n2 ≤ 20000) (hd : d ≠ 0) (hs : m < d ∨ n2 = 1) :
    Calls Tryz.prog 212 #[.slice p1 n1 c1,.slice p2 n2 c2] w fun e w' => ∃ pq nq cq pr nr cr,e = .returned (.tuple #[.slice pq nq cq,.slice pr nr cr]) ∧ MagAt w' pq nq cq (m / d) ∧ MagAt w' pr nr cr (m % d) ∧ Below w.heap.size w w':=by
  have hC:=mag_compare p1 p2 n1 c1 n2 c2 m d w h1 h2 (by omega) (by omega)
  by_cases hlt:m < d
  · have HL:=Lib.hid hlt
    have H1:=Lib.hid h1;clear h1 h2 hs
    clear hlt
    go_enter Tryz.func212,Tryz.ntmps212
    go_wp2_with fail
    refine hC.mono ?_
    rintro e w1 ⟨z,rfl,hz,hb⟩
    have hz0:z < 0:=by
      have:=HL.out
      rcases hz with h | h | h <;> omega
    clear hz
    go_wp2_with fail
    go_ret2
    refine ⟨none,0,0,p1,n1,c1,rfl,?_,?_,hb⟩
    · rw [Nat.div_eq_of_lt HL.out];exact MagAt.nil _
    · rw [Nat.mod_eq_of_lt HL.out];exact H1.out.below hb
  · have hn21:n2 = 1:=by omega
    subst hn21
    obtain ⟨b,o,rfl,hb,hcs⟩:=h2.cells (by omega)
    have hdw:wd d 0 = d:=by
      have:=lt_len d
      rw [← h2.n] at this
      unfold wd;simp at this ⊢;exact Nat.mod_eq_of_lt this
    have hdl:d < 1000000000:=by rw [← hdw];exact wd_lt d 0
    have hc:=hcs 0 (by omega)
    rw [hdw] at hc
    have HL:=Lib.hid hlt
    have hn:=h1.n
    subst hn
    have hW:=fun W (hb:Below w.heap.size w W) => mag_word p1 c1 m d W (h1.below hb) (by omega) (by omega) hdl
    have HW:=Lib.hid hW;clear hW
    have hml:m % d < 1000000000:=Nat.lt_trans (Nat.mod_lt _ (by omega)) hdl
    clear hcs hdw hlt hs h1 h2
    have hd0:0 < d:=by omega
    clear hd
    go_enter Tryz.func212,Tryz.ntmps212
    go_wp2_with fail
    refine hC.mono ?_
    rintro e w1 ⟨z,rfl,hz,hb1⟩
    have hz0:¬ z < 0:=by
      have:=HL.out
      rcases hz with h | h | h <;> omega
    clear hz
    have hc1:w1.cell? ⟨b,o,none⟩ = some (.int .u64 (d:Int)):=by
      have:=hb1.cell (p:=⟨b,o,none⟩) hb
      rw [this];simpa using hc
    go_wp2_with fail
    refine (HW.out _ hb1).mono ?_
    rintro e w2 ⟨pq,nq,cq,rfl,hq,hb2⟩
    have HQ:=Lib.hid hq;clear hq
    obtain ⟨r,hr⟩:∃ r,r = m % d:=⟨_,rfl⟩
    rw [← hr] at hml ⊢
    have HR:=Lib.hid hr;clear hr
    have hcut:=cut_any (some ⟨w2.heap.size,0,none⟩) 1 [r] (w2.alloc (.cells #[.int .u64 (r:Int)] 197)) (nats_one _ _ _ _) (by simp [B9_num];exact hml) (by simp)
    rw [mv_one] at hcut
    have HCT:=Lib.hid hcut;clear hcut
    go_wp2_with fail
    refine HCT.out.mono ?_
    rintro e w3 ⟨pr,nr,cr,rfl,hrr,hb3⟩
    have hb4:=((Below.refl w2.heap.size w2).alloc (Nat.le_refl _) (.cells #[.int .u64 (r:Int)] 197)).trans (hb3.mono (by simp))
    have HR2:=Lib.hid hrr;clear hrr
    go_wp2_with fail
    go_ret2
    refine ⟨pq,nq,cq,pr,nr,cr,rfl,HQ.out.below hb4,?_,bch' (bch' hb1 hb2) hb4⟩
    rw [← HR.out];exact HR2.out
end Go.Proofs.YtbeojahilbglcaaGreatDoor
namespace Go.Proofs.YtbeojahilbglcaaGreatDoor
open Go.RowKit Go.Shelf Lum
attribute [local go_sem] bs_get bs_extract_end bs_extract_from bs_extract bs_append
theorem mag_divided_long (p1 p2 : Option Addr) (n1 c1 n2 c2 m d : Nat) (w : World) (h1 : MagAt w p1 n1 c1 m) (h2 : MagAt w p2 n2 c2 d) (hn1 : n1 ≤ 20000) (hn2 : n2 ≤ 20000) (hle : d ≤ m) (hn : 1 < n2) :
    Calls Tryz.prog 212 #[.slice p1 n1 c1,.slice p2 n2 c2] w fun e w' => ∃ pq nq cq pr nr cr,e = .returned (.tuple #[.slice pq nq cq,.slice pr nr cr]) ∧ MagAt w' pq nq cq (m / d) ∧ MagAt w' pr nr cr (m % d) ∧ Below w.heap.size w w':=by
  obtain ⟨i0,hi,hz0,hz1,hz2⟩:=info_parts info_u64
  have hC:=mag_compare p1 p2 n1 c1 n2 c2 m d w h1 h2 (by omega) (by omega)
  have hd0:d ≠ 0:=by
    rintro rfl
    have:=h2.n;rw [magL_zero] at this;simp at this;omega
  obtain ⟨hs1,hs2,hs3⟩:=scale_ok d n2 hd0 h2.n
  obtain ⟨b,o,rfl,hb,hcs⟩:=h2.cells (by omega)
  obtain ⟨U,hU⟩:∃ U,U = n2 - 1:=⟨_,rfl⟩
  have hcu:=hcs (n2 - 1) (by omega)
  rw [← hU] at hcu hs1 hs2 hs3
  clear hcs
  obtain ⟨t,ht⟩:∃ t,t = wd d U:=⟨_,rfl⟩
  rw [← ht] at hcu hs1 hs2 hs3
  obtain ⟨s,hs⟩:∃ s,s = B9 / (t + 1):=⟨_,rfl⟩
  rw [← hs] at hs3
  have hs0:0 < s:=by rw [hs];exact Nat.div_pos (by omega) (by omega)
  have hsl:s < 1000000000:=by
    rw [hs];exact Nat.div_lt_self B9_pos (by omega)
  have hti:(1000000000:Int).tdiv ((t:Int) + 1) = (s:Int):=by
    rw [Int.tdiv_eq_ediv_of_nonneg (by omega),hs]
    show (1000000000:Int) / ((t + 1:Nat):Int) = ((1000000000 / (t + 1):Nat):Int)
    rw [Int.natCast_ediv];rfl
  have hti2:(1000000000:Int) / ((t:Int) + 1) = (s:Int):=by rw [← Int.tdiv_eq_ediv_of_nonneg (by omega)];exact hti
  have ht9:t < 1000000000:=hs1
  have hD0:d * s ≠ 0:=by have:=Nat.mul_pos (Nat.pos_of_ne_zero hd0) hs0;omega
  have hDl:(magL (d * s)).length = n2:=by
    have a1:(magL (d * s)).length ≤ n2:=(magL_len _ _).2 hs3
    have a2:(magL d).length ≤ (magL (d * s)).length:=magL_mono (Nat.le_mul_of_pos_right _ hs0)
    have:=h2.n;omega
  have hRl:(magL (m * s)).length ≤ n1 + 1:=by
    rw [magL_len,Nat.pow_succ]
    have:=below_len m n1 (by rw [← h1.n];omega)
    exact Nat.mul_lt_mul_of_lt_of_lt this hsl
  have hRD:d * s ≤ m * s:=Nat.mul_le_mul_right _ hle
  have hUi:(n2:Int) - 1 = (U:Int):=by omega
  have hUn:(U:Int) < (n2:Int):=by omega
  have hsne:¬ (t:Int) + 1 = 0:=by omega
  have HL:=Lib.hid hle;clear hle
  have H1:=Lib.hid h1;clear h1
  have H2:=Lib.hid h2;clear h2
  have HD0:=Lib.hid hD0;clear hD0
  have HDL:=Lib.hid hDl;clear hDl
  have HRL:=Lib.hid hRl;clear hRl
  have HRD:=Lib.hid hRD;clear hRD
  have HT:=Lib.hid ht;clear ht
  have HS:=Lib.hid hs;clear hs
  have HS3:=Lib.hid hs3;clear hs3
  have HD:=Lib.hid hd0;clear hd0
  clear hU hs1
  have hn21:(n2 == 1) = false:=by rw [beq_eq_false_iff_ne];omega
  go_enter Tryz.func212,Tryz.ntmps212
  go_wp2_with fail
  refine hC.mono ?_
  rintro e w1 ⟨z,rfl,hz,hb1⟩
  have hzn:¬ z < 0:=by
    have:=HL.out
    rcases hz with h | h | h <;> omega
  clear hz
  have hc1:w1.cell? ⟨b,o + U,none⟩ = some (.int .u64 (t:Int)):=(hb1.cell (p:=⟨b,o + U,none⟩) hb).trans hcu
  go_wp2_with fail
  have hb2:Below w.heap.size w (w1.alloc (.cells #[.int .u64 (s:Int)] 197)):=hb1.alloc hb1.size _
  have SC:MagAt (w1.alloc (.cells #[.int .u64 (s:Int)] 197)) (some ⟨w1.heap.size,0,none⟩) 1 1 s:=⟨by rw [magL_one s hs0 hsl];exact nats_one _ _ _ _,by rw [magL_one s hs0 hsl];rfl⟩
  have hscb:w1.heap.size < (w1.alloc (.cells #[.int .u64 (s:Int)] 197)).heap.size:=by simp
  generalize w1.alloc (.cells #[.int .u64 (s:Int)] 197) = w2 at *
  have HSC2:=Lib.hid SC;clear SC
  refine (mag_times p1 (some ⟨w1.heap.size,0,none⟩) n1 c1 1 1 m s w2 (H1.out.below hb2) HSC2.out (by omega) (by omega)).mono ?_
  rintro e w3 ⟨pr0,nr0,cr0,rfl,hM1,hb3⟩
  have HM1:=Lib.hid hM1;clear hM1
  go_wp2_with fail
  refine (mag_times (some ⟨b,o,none⟩) (some ⟨w1.heap.size,0,none⟩) n2 c2 1 1 d s w3 (H2.out.below (bch' hb2 hb3)) (HSC2.out.below hb3) (by omega) (by omega)).mono ?_
  rintro e w4 ⟨pb,nb,cb,rfl,hM2,hb4⟩
  have hnb:nb = n2:=by have:=hM2.n;rw [HDL.out] at this;exact this
  subst hnb
  have HBY:=Lib.hid hM2;clear hM2
  have HM3:=Lib.hid (HM1.out.below hb4);clear HM1
  have HSC:=Lib.hid (HSC2.out.below (hb3.trans (hb4.mono hb3.size)));clear HSC2
  have hb5:=bch' (bch' hb2 hb3) hb4
  have hnr0:nr0 ≤ n1 + 1:=by rw [HM3.out.n];exact HRL.out
  have hnr1:nb ≤ nr0:=by rw [HM3.out.n,← HDL.out];exact magL_mono HRD.out
  have hscb4:w1.heap.size < w4.heap.size:=Nat.lt_of_lt_of_le hscb (Nat.le_trans hb3.size hb4.size)
  have hsc4:w4.cell? ⟨w1.heap.size,0,none⟩ = some (.int .u64 (s:Int)):=by
    have:=HSC.out.1
    rw [magL_one s hs0 hsl] at this
    exact this.cell.2.2 0 (by simp)
  clear hb1 hb2 hb3 hb4 hscb hc1 hcu
  generalize hR0:m * s = R0 at *
  generalize hDD:d * s = D at *
  have HR0:=Lib.hid hR0;clear hR0
  have HDD:=Lib.hid hDD;clear hDD
  obtain ⟨r0,hr0⟩:∃ r0,nr0 = nb + r0:=⟨nr0 - nb,by omega⟩
  have hr0i:(nr0:Int) - (nb:Int) = (r0:Int):=by omega
  have HR0L:=Lib.hid hr0;clear hr0
  have hr0l:r0 ≤ n1 + 1:=by omega
  go_wp2_with fail
  go_loopw [9, 11, 12, 13, 14, 15] (fun vr vo vk _ _ _ wr => ∃ (pr : Option Addr) (nr cr : Nat) (po : Option Addr) (co : Nat) (qs : List Nat) (r R : Nat), vr = .slice pr nr cr ∧ vo = .slice po qs.length co ∧ vk = .int .i64 ((r : Int) - 1) ∧ Hid (MagAt wr pr nr cr R) ∧ Hid (OwnN .u64 w4.heap.size 197 wr po co qs) ∧
    Hid (R < D * B9 ^ r) ∧ Hid (R0 = mv B9 qs.reverse * (B9 ^ r * D) + R) ∧ Hid (∀ x ∈ qs,x < B9) ∧ qs.length + r ≤ n1 + 2 ∧ Below w4.heap.size w4 wr) (fun _ _ vk _ _ _ _ => (intOf vk + 1).toNat)
  case atStart =>
    refine ⟨pr0,nr0,cr0,none,0,[],r0 + 1,R0,rfl,rfl,val_int (by omega),HM3,OwnN.nil _ _ _ _,?_,(show R0 = _ by simp [mv]),(show ∀ x ∈ _,_ by simp),by simp;omega,Below.refl _ _⟩
    show R0 < D * B9 ^ (r0 + 1)
    have h:=div_start R0 D nr0 HD0.out HM3.out.n.symm
    rw [HDL.out,show nr0 - nb + 1 = r0 + 1 by have:=HR0L.out;omega] at h
    rcases h with h | h
    · exact h
    · have:=HM3.out.n;omega
  case round =>
    obtain ⟨pr,nr,cr,po,co,qs,r,R,rfl,rfl,rfl,HR,HO,HLT,HEQ,HX,hlen,hbr⟩:=hrel
    have hnr:nr ≤ n1 + 1:=by
      rw [HR.out.n]
      refine Nat.le_trans (magL_mono ?_) HRL.out
      have:=HEQ.out;omega
    cases r with
    | zero =>
      rename World => wu
      have hnrl:=HR.out.n
      subst hnrl
      rw [show ((0:Nat):Int) - 1 = -1 from rfl]
      have hql:qs.length ≤ 30000:=by omega
      have hbw:w4.heap.size ≤ wu.heap.size:=hbr.size
      have hsr:wu.cell? ⟨w1.heap.size,0,none⟩ = some (.int .u64 (s:Int)):=(hbr.cell (p:=⟨w1.heap.size,0,none⟩) hscb4).trans hsc4
      have hON:=OwnN.nats HO.out
      have HON:=Lib.hid hON;clear hON
      go_wp2_with (at_make;refine wpList_makeN _ rfl _ _ 243 rfl .u64 wu.heap.size 197 i0 Tryz.underlying243 hi hz0 hz1 (by rw [hz2];decide) .i64 .i64 _ _ qs.length rfl rfl rfl rfl (by omega) (Nat.le_refl _) ?_;rintro w5 hr5 hb5' hs5)
      have HR5:=Lib.hid hr5;clear hr5
      go_loopw [17,18,97] (fun _ _ vi wi => ∃ (zs:List Nat) (i:Nat),vi = .int .i64 i ∧ i ≤ qs.length ∧ zs.length = qs.length ∧ Hid (∀ j,j < i → zs[qs.length - 1 - j]? = qs[j]?) ∧ Hid (RowN .u64 197 wi wu.heap.size zs) ∧ Below wu.heap.size wu wi) (fun _ _ vi _ => qs.length - (intOf vi).toNat)
      case atStart =>
        exact ⟨List.replicate qs.length 0,0,rfl,by omega,by simp,(show ∀ j,_ by intro j hj;omega),HR5,hb5'⟩
      case round =>
        obtain ⟨zs,i,rfl,hil,hzl,HZ,HRW,hbi⟩:=hrel
        by_cases hlt:i < qs.length
        · obtain ⟨b7,o7,rfl⟩:=HON.out.some (by omega)
          obtain ⟨g1,g2,g3⟩:=HON.out.cell
          have hc7:wr.cell? ⟨b7,o7 + i,none⟩ = some (.int .u64 (qs[i]?.getD 0:Nat)):=(hbi.cell (p:=⟨b7,o7 + i,none⟩) g1).trans (g3 i hlt)
          have hst:=rev_step qs zs i hzl hlt HZ.out
          have HST:=Lib.hid hst;clear hst
          obtain ⟨I,hI⟩:∃ I,I = qs.length - 1 - i:=⟨_,rfl⟩
          rw [← hI] at HST
          have hIi:(qs.length:Int) - 1 - (i:Int) = (I:Int):=by omega
          have hIl:I < qs.length:=by omega
          have hIc:=HRW.out.cell I (by omega)
          have hIf:=HRW.out.frozen I
          have hqx:qs[i]?.getD 0 < 1000000000:=by
            have:qs[i]?.getD 0 = qs[i]:=by simp [hlt]
            rw [this];exact HX.out _ (List.getElem_mem hlt)
          generalize qs[i]?.getD 0 = d7 at *
          generalize zs[I]?.getD 0 = zz at hIc
          clear hI
          have HZL:=Lib.hid hzl;clear hzl
          go_wp2
          go_roundw
          case rel => exact ⟨zs.set I d7,i + 1,by go_num,by omega,by rw [List.length_set];exact HZL.out,HST.out,HRW.out.set I d7,hbi.setCell (p:=⟨wu.heap.size,I,none⟩) (Nat.le_refl _) _⟩
          case measure => simp [intOf];omega
        · obtain rfl:i = qs.length:=by omega
          have hzr:=rev_end qs zs hzl HZ.out
          obtain ⟨hq,hr⟩:=div_end m d s (mv B9 qs.reverse) R hs0 HD.out (by
            have:=HEQ.out
            rw [Nat.pow_zero,Nat.one_mul,← HR0.out,← HDD.out] at this;exact this) (by
            have:=HLT.out
            rw [Nat.pow_zero,Nat.mul_one,← HDD.out] at this;exact this)
          have hzd:∀ x ∈ zs,x < B9:=by
            intro x hx;rw [hzr] at hx;exact HX.out x (List.mem_reverse.1 hx)
          have hnat:=HRW.out.nats (by unfold maxLen;omega)
          have HNT:=Lib.hid hnat;clear hnat
          have hcut:=fun W h => cut_any (some ⟨wu.heap.size,0,none⟩) zs.length zs W h hzd (by omega)
          rw [hzr,hq,← hzr] at hcut
          have HCT:=Lib.hid hcut;clear hcut hzd hq hzr
          have hW:=mag_word pr cr R s wr (HR.out.below hbi) (by omega) hs0 hsl
          rw [hr] at hW
          have HW:=Lib.hid hW;clear hW hr
          have hsw:wr.cell? ⟨w1.heap.size,0,none⟩ = some (.int .u64 (s:Int)):=(hbi.cell (p:=⟨w1.heap.size,0,none⟩) (Nat.lt_of_lt_of_le hscb4 hbw)).trans hsr
          have HZL:=Lib.hid hzl
          rw [hzl] at HNT HCT
          clear hzl
          go_wp2_with fail
          refine HW.out.mono ?_
          rintro e w8 ⟨pf,nf,cf,rfl,hmf,hb8⟩
          have HMF:=Lib.hid hmf;clear hmf HW
          go_wp2_with fail
          refine (HCT.out _ (HNT.out.below hb8)).mono ?_
          rintro e w9 ⟨pg,ng,cg,rfl,hmg,hb9⟩
          have HMG:=Lib.hid hmg;clear hmg HCT
          go_wp2_with fail
          go_ret2
          exact ⟨pg,ng,cg,pf,nf,cf,rfl,HMG.out,HMF.out.below hb9,bch' (bch' (bch' (bch' hb5 hbr) hbi) hb8) hb9⟩
    | succ k =>
      have e:((k + 1:Nat):Int) - 1 = k:=by omega
      rw [e]
      have hBYr:=HBY.out.below hbr
      have hpos:0 < (magL D).length:=by rw [HDL.out];omega
      have hk2:k ≤ 20010:=by omega
      have HLE:=Lib.hid hlen;clear hlen
      have hdl:=HDL.out
      go_wp2_with (first | (at_make;refine wpList_makeO _ rfl _ _ 243 rfl .u64 wr.heap.size 197 i0 Tryz.underlying243 hi hz0 hz1 (by rw [hz2];decide) .i64 .i64 _ _ k rfl rfl rfl rfl (by omega) (Nat.le_refl _) ?_;rintro w5 ho5 hb5') | (at_builtin;refine wpList_appNs rfl _ _ 243 rfl .u64 wr.heap.size 197 i0 (.int .u64 0) 8 Tryz.underlying243 hi hz0 hz1 hz2 rfl (by decide) (some ⟨wr.heap.size,0,none⟩) k (List.replicate k 0) w5 pb nb cb (magL D) (by rw [List.length_replicate];rfl) ho5 rfl (hBYr.below hb5').1 hpos (by rw [List.length_replicate];omega) hb5'.size ?_;rintro p6 c6 w6 ho6 hb6 hk6;rw [List.length_replicate]))
      have hb46:=hb5'.trans hb6
      have SH:Hid (MagAt w6 p6 (k + nb) c6 (D * B9 ^ k)):=by
        have h:=OwnN.nats ho6
        rw [List.length_append,List.length_replicate,hdl,← magL_shift D k HD0.out] at h
        exact ⟨h,by rw [magL_shift D k HD0.out,List.length_append,List.length_replicate,hdl]⟩
      have R6:=Lib.hid (HR.out.below hb46)
      have O6:=Lib.hid (OwnN.keep HO.out hb46)
      have BY6:=hBYr.below hb46
      have hwd:0 < wd D (nb - 1):=by
        have:=(scale_ok D nb HD0.out hdl.symm).2.1;exact this
      clear ho5 hb5' ho6 hb6 hk6 HR HO hBYr
      generalize hL2:k + nb = nsh at *
      have hnsh:nsh ≤ 50000:=by omega
      have HL2:=Lib.hid hL2;clear hL2
      have hG:=mag_guess pr pb nr cr nb cb R D k w6 R6.out BY6 (by omega) (by omega) (by omega) (by omega) hwd
      have hgl:=gss_lt R D nb k
      have hge:=gss_ge R D k nb hdl HD0.out HLT.out
      have htw:=word_small R D k HD0.out HLT.out
      clear hwd hdl
      generalize gss R D nb k = g at *
      obtain ⟨tq,htq⟩:∃ tq,tq = R / (D * B9 ^ k):=⟨_,rfl⟩
      rw [← htq] at hge htw
      have htw2:tq < 1000000000:=htw
      have HTQ:=Lib.hid htq;clear htq htw
      go_wp2_with fail
      refine hG.mono ?_
      rintro e w7 ⟨rfl,hb7⟩
      have R7:=Lib.hid (R6.out.below hb7);clear R6
      have O7:=Lib.hid (OwnN.keep O6.out hb7);clear O6
      have S7:=Lib.hid (SH.out.below hb7);clear SH
      clear BY6 hG
      have hb47:=bch' hb46 hb7
      clear hb7 hb46
      have hcut:=cut_any (some ⟨w7.heap.size,0,none⟩) 1 [g] (w7.alloc (.cells #[.int .u64 (g:Int)] 197)) (nats_one _ _ _ _) (by simp [B9_num];exact hgl) (by simp)
      rw [mv_one] at hcut
      have HCT:=Lib.hid hcut;clear hcut
      go_wp2_with fail
      refine HCT.out.mono ?_
      rintro e w8 ⟨pg,ng,cg,rfl,hgm,hb8⟩
      have hb78:=((Below.refl w7.heap.size w7).alloc (Nat.le_refl _) (.cells #[.int .u64 (g:Int)] 197)).trans (hb8.mono (by simp))
      have hng:ng ≤ 1:=by
        rw [hgm.n,magL_len];simpa [B9_num] using hgl
      have R8:=Lib.hid (R7.out.below hb78);clear R7
      have O8:=Lib.hid (OwnN.keep O7.out hb78);clear O7
      have S8:=Lib.hid (S7.out.below hb78);clear S7
      have hT:=mag_times p6 pg nsh c6 ng cg (D * B9 ^ k) g w8 S8.out hgm (by omega) (by omega)
      have HTM:=Lib.hid hT;clear hT hgm
      have hb48:=bch' hb47 hb78
      clear hb8 hb47 hb78 HCT
      go_wp2_with fail
      refine HTM.out.mono ?_
      rintro e w9 ⟨pp,np,cp,rfl,hpm,hb9⟩
      have R9:=Lib.hid (R8.out.below hb9);clear R8
      have O9:=Lib.hid (OwnN.keep O8.out hb9);clear O8
      have S9:=Lib.hid (S8.out.below hb9);clear S8
      have hb49:=bch' hb48 hb9
      clear hb9 hb48 HTM
      have HPM:=Lib.hid hpm;clear hpm
      go_wp2_with fail
      obtain ⟨X,hX⟩:∃ X,X = D * B9 ^ k:=⟨_,rfl⟩
      rw [← hX] at HPM S9 HTQ
      have hXl:(magL X).length = nsh:=by have:=S9.out.n;exact this.symm
      have hX0:0 < X:=by rw [hX];exact Nat.mul_pos (Nat.pos_of_ne_zero HD0.out) (Nat.pow_pos B9_pos)
      have HXX:=Lib.hid hX;clear hX
      have HXL:=Lib.hid hXl;clear hXl
      obtain ⟨wo,hwo⟩:∃ wo:World,wo = w9:=⟨_,rfl⟩
      rw [← hwo] at R9 O9 S9 hb49
      go_loopw [14,15] (fun vq vp wi => ∃ (q:Nat) (pp:Option Addr) (np cp:Nat),vq = .int .u64 q ∧ vp = .slice pp np cp ∧ tq ≤ q ∧ q ≤ g ∧ Hid (MagAt wi pp np cp (X * q)) ∧ Below wo.heap.size wo wi) (fun vq _ _ => (intOf vq).toNat)
      case atStart =>
        exact ⟨g,pp,np,cp,rfl,rfl,hge,Nat.le_refl _,HPM,by rw [hwo];exact Below.refl _ _⟩
      case round =>
        clear HPM hwo
        obtain ⟨q,pq,nq,cq,rfl,rfl,hq1,hq2,HPQ,hbi⟩:=hrel
        have hnq:nq ≤ nsh + 1:=by rw [HPQ.out.n];exact prod_len X q nsh (by rw [B9_num];omega) (Nat.le_of_eq HXL.out)
        have hcm:=mag_compare pq pr nq cq nr cr (X * q) R _ HPQ.out (R9.out.below hbi) (by omega) (by omega)
        have HCM:=Lib.hid hcm;clear hcm
        go_wp2_with fail
        refine HCM.out.mono ?_
        rintro e w10 ⟨z2,rfl,hz2',hb10⟩
        have hbo:=bch' hbi hb10
        have PQ:=Lib.hid (HPQ.out.below hb10)
        clear HPQ HCM
        by_cases hzp:0 < z2
        · have hgt:tq < q:=by
            rcases hz2' with h | h | h
            · omega
            · omega
            · rcases Nat.lt_or_ge tq q with h' | h'
              · exact h'
              · have e2:q = R / X:=by rw [← HTQ.out];omega
                have:=Nat.mul_div_le R X
                rw [e2] at h;omega
          clear hz2'
          have hsub:X * q - X = X * (q - 1):=by rw [Nat.mul_sub,Nat.mul_one]
          have hlsq:X ≤ X * q:=Nat.le_mul_of_pos_right _ (by omega)
          have hls:=mag_less pq p6 nq cq nsh c6 (X * q) X w10 PQ.out (S9.out.below hbo) (by omega) (by omega) hlsq
          rw [hsub] at hls
          have HLS:=Lib.hid hls;clear hls hsub hlsq
          obtain ⟨q',rfl⟩:∃ q',q = q' + 1:=⟨q - 1,by omega⟩
          go_wp2_with fail
          refine HLS.out.mono ?_
          rintro e w11 ⟨pl,nl,cl,rfl,hml,hb11⟩
          have HML:=Lib.hid hml;clear hml
          go_wp2_with fail
          go_roundw
          case rel => exact ⟨q',pl,nl,cl,val_int (by omega),rfl,by omega,by omega,HML,bch' hbo hb11⟩
          case measure => simp [intOf]
        · have heq:X * q ≤ R:=by
            rcases hz2' with h | h | h <;> omega
          have hqt:q = tq:=by
            have:q ≤ R / X:=(Nat.le_div_iff_mul_le hX0).2 (by rw [Nat.mul_comm];exact heq)
            rw [← HTQ.out] at this;omega
          subst hqt
          clear hz2'
          have hls:=mag_less_more pr pq nr cr nq cq R (X * q) w10 (R9.out.below hbo) PQ.out (by omega) (by omega) heq
          have HLS:=Lib.hid hls;clear hls
          have hro:=round_ok R0 R D k (mv B9 qs.reverse) HD0.out HLT.out HEQ.out
          rw [← HXX.out,← HTQ.out] at hro
          have HRO:=Lib.hid hro;clear hro heq
          go_wp2_with fail
          refine HLS.out.mono ?_
          rintro e w11 ⟨pn,nn,cn,rfl,hmn,hb11,hfr⟩
          have HMN:=Lib.hid hmn;clear hmn
          have HFR:=Lib.hid hfr;clear hfr HLS
          have hb12:=bch' hbo hb11
          have hO11:=OwnN.keep O9.out hb12
          have hbase:w4.heap.size ≤ w11.heap.size:=Nat.le_trans hbr.size (Nat.le_trans hb49.size hb12.size)
          have hq9:q < 1000000000:=by omega
          have hql:qs.length < 900000000:=by have:=HLE.out;omega
          go_wp2_with (at_builtin;refine wpList_appNs rfl _ _ 243 rfl .u64 w4.heap.size 197 i0 (.int .u64 0) 8 Tryz.underlying243 hi hz0 hz1 hz2 rfl (by decide) po co qs _ (some ⟨w11.heap.size,0,none⟩) 1 1 [q] rfl (OwnN.keep hO11 ((Below.refl w11.heap.size w11).alloc (Nat.le_refl _) _)) rfl (nats_one _ _ _ _) (by simp) (by simp;omega) (by rw [World.size_alloc];omega) ?_;rintro p13 c13 w13 ho13 hb13 hk13)
          go_roundw
          case rel =>
            have hMN:MagAt w13 pn nn cn (R - X * q):=by
              refine ⟨hk13 .u64 _ _ (HMN.out.below ((Below.refl w11.heap.size w11).alloc (Nat.le_refl _) _)).1 ?_,HMN.out.2⟩
              rintro b' o' L C ad e1 e2
              injection e1 with e1 _ _
              have g1:=HFR.out _ e1
              have g2:=(OwnL.lt O9.out ad e2).2
              have g3:=hbo.size
              simp only at g1
              omega
            refine ⟨pn,nn,cn,p13,c13,qs ++ [q],k,R - X * q,rfl,by simp,val_int (by omega),hMN,ho13,?_,?_,?_,by have:=HLE.out;simp;omega,?_⟩
            · show R - X * q < D * B9 ^ k
              rw [← HXX.out];exact HRO.out.1
            · show R0 = _
              rw [List.reverse_append]
              exact HRO.out.2
            · intro x hx
              rcases List.mem_append.1 hx with h | h
              · exact HX.out x h
              · simp at h;rw [h];exact hq9
            · exact ((hbr.trans (hb49.mono hbr.size)).trans (hb12.mono (Nat.le_trans hbr.size hb49.size))).trans (((Below.refl w4.heap.size w11).alloc hbase _).trans hb13)
          case measure => simp [intOf]
end Go.Proofs.YtbeojahilbglcaaGreatDoor
namespace Go.Proofs.YtbeojahilbglcaaGreatDoor
open Go.RowKit Go.Shelf Lum
theorem mag_divided (p1 p2 : Option Addr) (n1 c1 n2 c2 m d : Nat) (w : World) (h1 : MagAt w p1 n1 c1 m) (h2 : MagAt w p2 n2 c2 d) (hn1 : n1 ≤ 20000) (hn2 : n2 ≤ 20000) (hd : d ≠ 0) :
    Calls Tryz.prog 212 #[.slice p1 n1 c1,.slice p2 n2 c2] w fun e w' => ∃ pq nq cq pr nr cr,e = .returned (.tuple #[.slice pq nq cq,.slice pr nr cr]) ∧ MagAt w' pq nq cq (m / d) ∧ MagAt w' pr nr cr (m % d) ∧ Below w.heap.size w w':=by
  by_cases hs:m < d ∨ n2 = 1
  · exact mag_divided_small p1 p2 n1 c1 n2 c2 m d w h1 h2 hn1 hn2 hd hs
  · have:0 < n2:=by rw [h2.n];exact magL_ne d hd
    exact mag_divided_long p1 p2 n1 c1 n2 c2 m d w h1 h2 hn1 hn2 (by omega) (by omega)
end Go.Proofs.YtbeojahilbglcaaGreatDoor
