/- Blocks of tactics and short names. -/
import Derived.Test.YtekcpadlmfaihaaGreatRows
import Derived.WalkKit
import Derived.WalkSpells
import Derived.WalkLawsBesides
import Derived.Lib.Hide
import Derived.Lib.Strings
import Derived.Below
import Derived.Laws.OwnMore
import Derived.Deep.AppendLies
import Derived.Deep.Draws
import Derived.Deep.QuietTactic
import Derived.BigQuiet
import Derived.Laws.MakeOwn
import Derived.Maps.AppendAt
import Derived.Deep.RegionHeld3
import Derived.Deep.LoopGhost
import Derived.StillTailTactics
import Derived.IntWalk
import Derived.Laws.BitsAllLaws
import Derived.Laws.BytesArg
import Derived.Deep.RegionLaw
import Derived.Deep.DeepCutAuto
import Derived.Laws.IdiomStrings
import Derived.BigRegion
import Derived.Deep.DrawnRows
import Derived.ProofKit
import Derived.OpenShut
import Derived.ShutString
import Derived.ChangeOld
import Derived.Deep.Slices
import Derived.Deep.Fields
import Derived.ChangeSame
namespace Go.Proofs.YtekcpadlmfaihaaGreat
open Go.RowKit Proofs.Tryz
set_option linter.unusedSimpArgs false
set_option linter.unusedVariables false
instance:Coe Unit Value:=⟨λ_=> .slice none 0 0⟩
instance:Coe Int Value:=⟨λx=> .int .i64 x⟩
instance:Coe Nat Value:=⟨λx=> .int .i64 (x:Int)⟩
theorem Hc:type_of% @List.drop_zero:=@List.drop_zero
theorem aA:type_of% @List.mem_of_getElem?:=@List.mem_of_getElem?
theorem aB:type_of% @cond_false:=@cond_false
theorem aC:type_of% @List.take_of_length_le:=@List.take_of_length_le
theorem aD:type_of% @cond_true:=@cond_true
theorem aE:type_of% @List.nodup_append:=@List.nodup_append
theorem aF:type_of% @Calls.mono:=@Calls.mono
theorem aG:type_of% @List.mem_append:=@List.mem_append
theorem aH:type_of% @if_neg:=@if_neg
theorem aI:type_of% @List.map_append:=@List.map_append
theorem aJ:type_of% @wp_block:=@wp_block
theorem aK:type_of% @decide_eq_false:=@decide_eq_false
theorem aL:type_of% @decide_eq_true_eq:=@decide_eq_true_eq
theorem aM:type_of% @decide_eq_true:=@decide_eq_true
theorem aN:type_of% @if_pos:=@if_pos
theorem aO:type_of% @wp_ret:=@wp_ret
theorem aP:type_of% @List.mem_cons_of_mem:=@List.mem_cons_of_mem
theorem aQ:type_of% @List.nodup_cons:=@List.nodup_cons
theorem aR:type_of% @List.length_eq_zero_iff:=@List.length_eq_zero_iff
theorem aS:type_of% @List.append_assoc:=@List.append_assoc
theorem aT:type_of% @List.mem_cons_self:=@List.mem_cons_self
theorem aU:type_of% @Int.toNat_natCast:=@Int.toNat_natCast
theorem aV:type_of% @List.all_eq_true:=@List.all_eq_true
theorem aW:type_of% @wp_region_held_drew:=@wp_region_held_drew
theorem aX:type_of% @List.mem_cons:=@List.mem_cons
theorem aY:type_of% @List.length_append:=@List.length_append
theorem aZ:type_of% @wp_loop_rounds:=@wp_loop_rounds
theorem a_:type_of% @List.set_cons_zero:=@List.set_cons_zero
theorem aa:type_of% @Lib.hid:=@Lib.hid
theorem abg:type_of% @List.getElem?_set_self:=@List.getElem?_set_self
theorem abj:type_of% @Nat.le_succ:=@Nat.le_succ
theorem ac:type_of% @Bool.eq_false_or_eq_true:=@Bool.eq_false_or_eq_true
theorem ae:type_of% @wp_seq:=@wp_seq
theorem af:type_of% @Nat.le_refl:=@Nat.le_refl
theorem ag:type_of% @List.getElem?_cons_succ:=@List.getElem?_cons_succ
theorem ah:type_of% @List.getElem?_cons_zero:=@List.getElem?_cons_zero
theorem aj:type_of% @Bool.true_and:=@Bool.true_and
theorem ak:type_of% @Bool.not_false:=@Bool.not_false
theorem am:type_of% @Bool.false_and:=@Bool.false_and
theorem aq:type_of% @Bool.false_or:=@Bool.false_or
theorem ar:type_of% @Bool.not_true:=@Bool.not_true
theorem au:type_of% @List.length_map:=@List.length_map
theorem aw:type_of% @List.getElem?_eq_getElem:=@List.getElem?_eq_getElem
theorem ax:type_of% @Bool.and_eq_true:=@Bool.and_eq_true
theorem ay:type_of% @List.getElem?_eq_some_iff:=@List.getElem?_eq_some_iff
theorem az:type_of% @Bool.true_or:=@Bool.true_or
theorem bB:type_of% @decide_eq_false_iff_not:=@decide_eq_false_iff_not
theorem bC:type_of% @List.foldl_cons:=@List.foldl_cons
theorem bD:type_of% @List.mem_append_right:=@List.mem_append_right
theorem bE:type_of% @List.getElem?_toArray:=@List.getElem?_toArray
theorem bF:type_of% @List.cons.injEq:=@List.cons.injEq
theorem bG:type_of% @Value.slice.injEq:=@Value.slice.injEq
theorem bH:type_of% @List.filterMap_cons:=@List.filterMap_cons
theorem bI:type_of% @Nat.zero_add:=@Nat.zero_add
theorem bJ:type_of% @List.mem_append_left:=@List.mem_append_left
theorem bK:type_of% @IntKind.wrap_i64:=@IntKind.wrap_i64
theorem bL:type_of% @List.map_nil:=@List.map_nil
theorem bM:type_of% @bodyPost_ret:=@bodyPost_ret
theorem bO:type_of% @trivial:=@trivial
theorem bP:type_of% @List.append_nil:=@List.append_nil
theorem bQ:type_of% @Int.eq_ofNat_of_zero_le:=@Int.eq_ofNat_of_zero_le
theorem bR:type_of% @Array.getElem?_eq_getElem:=@Array.getElem?_eq_getElem
theorem bT:type_of% @List.count_append:=@List.count_append
theorem bU:type_of% @List.length_cons:=@List.length_cons
theorem bV:type_of% @Option.getD_some:=@Option.getD_some
theorem bX:type_of% @Bool.or_eq_true:=@Bool.or_eq_true
theorem bY:type_of% @List.filterMap_nil:=@List.filterMap_nil
theorem bZ:type_of% @Nat.zero_lt_one:=@Nat.zero_lt_one
theorem b_:type_of% @List.getElem?_eq_none:=@List.getElem?_eq_none
theorem ba:type_of% @NoPanic.normal:=@NoPanic.normal
theorem bd:type_of% @wp_skip:=@wp_skip
theorem be:type_of% @List.set_cons_succ:=@List.set_cons_succ
theorem bf:type_of% @List.length_nil:=@List.length_nil
theorem bg:type_of% @Bool.eq_iff_iff:=@Bool.eq_iff_iff
theorem bh:type_of% @List.setIfInBounds_toArray:=@List.setIfInBounds_toArray
theorem bo:type_of% @wp_exit:=@wp_exit
theorem br:type_of% @List.map_cons:=@List.map_cons
theorem bt:type_of% @List.length_singleton:=@List.length_singleton
theorem bu:type_of% @wp_region_noPanic:=@wp_region_noPanic
theorem bv:type_of% @wpAnyH_done:=@wpAnyH_done
theorem bz:type_of% @Nat.eq_zero_or_pos:=@Nat.eq_zero_or_pos
theorem cA:type_of% @List.take_append_drop:=@List.take_append_drop
theorem cB:type_of% @List.flatMap_cons:=@List.flatMap_cons
theorem cC:type_of% @List.take_length:=@List.take_length
theorem cD:type_of% @of_decide_eq_true:=@of_decide_eq_true
theorem cE:type_of% @Option.some.injEq:=@Option.some.injEq
theorem cF:type_of% @Nat.add_zero:=@Nat.add_zero
theorem cG:type_of% @List.take_succ_cons:=@List.take_succ_cons
theorem cH:type_of% @Array.getD_eq_getD_getElem?:=@Array.getD_eq_getD_getElem?
theorem cI:type_of% @Array.getElem?_eq_none:=@Array.getElem?_eq_none
theorem cJ:type_of% @List.nil_append:=@List.nil_append
theorem cK:type_of% @List.cons_append:=@List.cons_append
theorem cL:type_of% @List.take_zero:=@List.take_zero
theorem cM:type_of% @List.drop_of_length_le:=@List.drop_of_length_le
theorem cN:type_of% @Array.getElem?_eq_some_iff:=@Array.getElem?_eq_some_iff
theorem cO:type_of% @and_true:=@and_true
theorem cP:type_of% @Nat.lt_or_ge:=@Nat.lt_or_ge
theorem cQ:type_of% @Bool.not_eq_true':=@Bool.not_eq_true'
theorem cR:type_of% @List.drop_eq_getElem_cons:=@List.drop_eq_getElem_cons
theorem cS:type_of% @List.mem_filter:=@List.mem_filter
theorem cT:type_of% @List.map_congr_left:=@List.map_congr_left
theorem cU:type_of% @congrArg:=@congrArg
theorem cV:type_of% @List.getElem?_append_right:=@List.getElem?_append_right
theorem cW:type_of% @List.contains_eq_mem:=@List.contains_eq_mem
theorem cX:type_of% @List.count_cons:=@List.count_cons
theorem cY:type_of% @List.getElem?_append_left:=@List.getElem?_append_left
theorem cZ:type_of% @info_parts:=@info_parts
theorem c_:type_of% @List.mem_range:=@List.mem_range
theorem ce:type_of% @or_false:=@or_false
theorem cg:type_of% @List.getElem?_map:=@List.getElem?_map
theorem cj:type_of% @List.flatMap_append:=@List.flatMap_append
theorem cu:type_of% @Nat.mul_one:=@Nat.mul_one
theorem dA:type_of% @List.getElem_mem:=@List.getElem_mem
theorem dB:type_of% @List.mem_iff_getElem?:=@List.mem_iff_getElem?
theorem dC:type_of% @Array.getElem?_setIfInBounds_ne:=@Array.getElem?_setIfInBounds_ne
theorem dD:type_of% @wpOp_step:=@wpOp_step
theorem dE:type_of% @List.replicate_succ:=@List.replicate_succ
theorem dF:type_of% @rounds_succ:=@rounds_succ
theorem dG:type_of% @wpAnyH_all:=@wpAnyH_all
theorem dH:type_of% @List.map_set:=@List.map_set
theorem dI:type_of% @List.set_append_right:=@List.set_append_right
theorem dJ:type_of% @List.filterMap_append:=@List.filterMap_append
theorem dK:type_of% @List.foldl_nil:=@List.foldl_nil
theorem dL:type_of% @decide_eq_decide:=@decide_eq_decide
theorem dM:type_of% @List.mem_flatMap:=@List.mem_flatMap
theorem dN:type_of% @List.drop_succ_cons:=@List.drop_succ_cons
theorem dO:type_of% @List.length_take_le:=@List.length_take_le
theorem da:type_of% @List.length_set:=@List.length_set
theorem db:type_of% @Nat.lt_of_lt_of_le:=@Nat.lt_of_lt_of_le
theorem dd:type_of% @Nat.mul_le_mul_right:=@Nat.mul_le_mul_right
theorem de:type_of% @List.length_take:=@List.length_take
theorem df:type_of% @List.not_mem_nil:=@List.not_mem_nil
theorem dh:type_of% @List.isEmpty_iff:=@List.isEmpty_iff
theorem dj:type_of% @Nat.zero_le:=@Nat.zero_le
theorem dm:type_of% @of_decide_eq_false:=@of_decide_eq_false
theorem dr:type_of% @toList_madeCells_one:=@toList_madeCells_one
theorem dt:type_of% @List.mem_map_of_mem:=@List.mem_map_of_mem
theorem du:type_of% @Nat.le_trans:=@Nat.le_trans
theorem dx:type_of% @Nat.zero_mul:=@Nat.zero_mul
theorem dy:type_of% @true_and:=@true_and
theorem ed:type_of% @List.mem_singleton:=@List.mem_singleton
theorem eo:type_of% @List.count_pos_iff:=@List.count_pos_iff
theorem et:type_of% @List.ext_getElem?:=@List.ext_getElem?
theorem eu:type_of% @List.length_take_le':=@List.length_take_le'
theorem l5:type_of% @Option.map_some:=@Option.map_some
theorem lC{P:Prop}(h:P:=by have kB:=M.bl 0 rfl;have c0:wv.cell? _=some _:=kB.cell 0;have c1:wv.cell? _=some _:=kB.cell 1;have c2:wv.cell? _=some _:=kB.cell 2;have c3:wv.cell? _=some _:=kB.cell 3;clear kB M;go_simp;exact hK):P:=h
theorem mg{P:Prop}(h:P:=by
 (repeat'(first|with_reducible assumption|with_reducible exact Below.refl _ _|with_reducible refine jR ?_|with_reducible refine gT ?_ ?_|with_reducible refine ie ?_ ?_|with_reducible refine gR ?_ (by with_reducible assumption) ?_|((try simp only[dW,dT,dX]);omega)))):P:=h
theorem rF{P:Prop}(h:P:=by
 show ∀i,i<11->_;refine On (On (On (On (On ?_ eB) eB) eB) eB) eB;refine On ?_ (tn [] [2] [] (h:=λγ wv R K M hK=>by go_simp;go_at_call 117;exact Mw (Zb.out _ (M.arg mP) (M.arg rn)) M hK))
 refine On (On (On ?_ eh) (e_ [1] 3)) (lL [0]);refine On ?_ (tn [] [] [] (h:=λγ wv R K M hK=>by go_simp;go_at_call 118;refine(lI ⟨4,([]:List Item),its,ns,cls,([]:List Str),0,0⟩ _ _ (M.arg gF) (by simp;omega)).mono ?_;rintro e w' ⟨rfl,hb⟩;rw[kQ.out];exact hK (mA 0) w' (M.next hb)))
 exact On Oz (lL [1])):P:=h
theorem yD{P:Prop}(h:P:=by
 have hlq:q<(eY its (max its.length (q+1)) zeroV).length:=by rw[pD (by omega)];omega
 obtain⟨⟨u0,c0⟩,hc,fz,hg,M'⟩:=M.setVecG (k:=q) (aw hlq);obtain⟨u1,c1⟩:=hc 1 (by decide);obtain⟨u2,c2⟩:=hc 2 (by decide);obtain⟨u3,c3⟩:=hc 3 (by decide);obtain⟨u4,c4⟩:=hc 4 (by decide);obtain⟨u5,c5⟩:=hc 5 (by decide);obtain⟨u6,c6⟩:=hc 6 (by decide);obtain⟨u7,c7⟩:=hc 7 (by decide);have f0:=fz (q*8);have f1:=fz (q*8+1);have f2:=fz (q*8+2);have f3:=fz (q*8+3);have f4:=fz (q*8+4);have f5:=fz (q*8+5);have f6:=fz (q*8+6);have f7:=fz (q*8+7);clear M fz hlq hc;go_simp;exact hK (mA 0) _ M'):P:=h
theorem yf{P:Prop}(h:P:=by
 (repeat'(first|with_reducible assumption|with_reducible refine gX ?_|with_reducible refine fK ?_|with_reducible refine ft ?_ ?_|with_reducible exact fS|with_reducible refine fR ?_ ?_|(with_reducible refine Fresh.notin (by with_reducible assumption) ?_;((try simp only[dW,dT,dX]);omega))|(with_reducible refine Lo.notin (by with_reducible assumption) ?_;((try simp only[dW,dT,dX]);omega))|with_reducible refine em ?_ (by with_reducible assumption)))):P:=h
theorem yv{P:Prop}(h:P:=by have kB:=M.bl 0 rfl;have c0:wv.cell? _=some _:=kB.cell 0;have c1:wv.cell? _=some _:=kB.cell 1;have c2:wv.cell? _=some _:=kB.cell 2;have c3:wv.cell? _=some _:=kB.cell 3;have c4:wv.cell? _=some _:=kB.cell 4;have c5:wv.cell? _=some _:=kB.cell 5;have c6:wv.cell? _=some _:=kB.cell 6;have c7:wv.cell? _=some _:=kB.cell 7;clear kB M;go_simp;exact hK):P:=h
theorem i9{P:Prop}(h:P:=by have c0:wv.cell? _=some (.int .i64 ((q+1:Nat):Int)):=(M.intAt (k:=0) rfl).1;clear M;go_simp;exact hK):P:=h
theorem ur{P:Prop}(h:P:=by have kB:=M.bl 0 rfl;have c4:wv.cell? _=some _:=kB.cell 4;have c5:wv.cell? _=some _:=kB.cell 5;have c6:wv.cell? _=some _:=kB.cell 6;have c7:wv.cell? _=some _:=kB.cell 7;have c8:wv.cell? _=some _:=kB.cell 8;have c9:wv.cell? _=some _:=kB.cell 9;have c10:wv.cell? _=some _:=kB.cell 10;have c11:wv.cell? _=some _:=kB.cell 11;clear kB M;go_simp;exact hK):P:=h
theorem yK{P:Prop}(h:P:=by
 rw[HX.out,aI,br,bL]
 (repeat'(first|with_reducible assumption|with_reducible refine gX ?_|with_reducible refine fK ?_|with_reducible refine ft ?_ ?_|with_reducible exact fS|with_reducible refine fR ?_ ?_|(with_reducible refine Fresh.notin (by with_reducible assumption) ?_;((try simp only[dW,dT,dX]);omega))|(with_reducible refine Lo.notin (by with_reducible assumption) ?_;((try simp only[dW,dT,dX]);omega))|with_reducible refine em ?_ (by with_reducible assumption)))):P:=h
theorem G_{P:Prop}(h:P:=by
 have hx:=aw hlt;have HX:=aa hx;clear hx;have nD:(s[k].toNat:Int)<33\/(33<=(s[k].toNat:Int)/\126<(s[k].toNat:Int))\/(33<=(s[k].toNat:Int)/\(s[k].toNat:Int)<=126/\(s[k].toNat:Int)=96)\/(33<=(s[k].toNat:Int)/\(s[k].toNat:Int)<=126/\¬(s[k].toNat:Int)=96):=by omega
 have hbad:ZW s[k]=false->isNm s=false:=λh=>by rw[isNm,nN HX.out h];rfl
 have HB:=aa hbad;clear hbad;rcases nD with h1|⟨h1,h2⟩|⟨h1,h2,h3⟩|⟨h1,h2,h3⟩
 ·go_wp2;go_ret;exact⟨dZ (HB.out (by simp [ZW];omega)).symm,rfl⟩
 ·go_wp2;go_ret;exact⟨dZ (HB.out (by simp [ZW];omega)).symm,rfl⟩
 ·have h3':((s[k].toNat:Int)==96)=true:=by simpa using h3
  have H3:=aa h3;clear h3;go_wp2;go_ret;have h4:=H3.out;exact⟨dZ (HB.out (by simp [ZW];omega)).symm,rfl⟩
 ·have h3':((s[k].toNat:Int)==96)=false:=by simpa using h3
  go_wp2;go_round
  case rel=>exact⟨k+1,by omega,by go_num,iY HX.out HF.out (by simp [ZW];omega)⟩
  case measure=>simp [intOf];omega):P:=h
theorem uC{P:Prop}(h:P:=by have kB:=M.bl 0 rfl;have c0:wv.cell? _=some _:=kB.cell 0;have f0:=kB.frozen 0;have c1:wv.cell? _=some _:=kB.cell 1;have f1:=kB.frozen 1;have c2:wv.cell? _=some _:=kB.cell 2;have f2:=kB.frozen 2;have c3:wv.cell? _=some _:=kB.cell 3;have f3:=kB.frozen 3;have hg:=kB.lt;go_simp;exact hK (mA 0) _ ((((M.put 0 _).put 1 _).put 2 _).put 3 _)):P:=h
theorem GZ{P:Prop}(h:P:=by
 intro j u hu;rcases bz m with h0|h0
 ·subst h0;have xf:l2=[]:=List.eq_nil_of_length_eq_zero hr.1;subst xf;simp at hu
 ·obtain⟨b,off,hA,_,hc⟩:=hr.2 h0;injection hA with hA;subst hA;have hj:j<l2.length*size:=by have:=(ay.1 hu).1;rwa [gN mB]at this
  have hk:j/size<l2.length:=by rw[Nat.div_lt_iff_lt_mul (by omega)];exact hj
  have hx:=aw hk;have Wz:j % size<(enc l2[j/size]).length:=by rw[mB];exact Nat.mod_lt _ (by omega)
  have hu':=aw Wz;have h5:=KY mB l2 (j/size) (j % size) _ _ hx hu';have e1:j/size*size+j % size=j:=by rw[Nat.mul_comm];exact Nat.div_add_mod j size
  rw[e1,hu]at h5;have h6:=hc (j/size) _ (j % size) _ hx hu';rw[show off+j/size*size+j % size=off+j from by omega]at h6;rw[show (⟨b,off,none⟩:Addr).add j=⟨b,off+j,none⟩ from by unfold Addr.add;split<;>simp_all,h6];exact h5.symm):P:=h
theorem uv{P:Prop}(h:P:=by
 (repeat'(first|with_reducible assumption|with_reducible exact Blk.new'|with_reducible exact Blk.newd|with_reducible apply Blk.set8|(with_reducible refine Blk.pk ?_ ?_;((try simp only[dW,dT,dX]);omega))|with_reducible refine Blk.dw ?_|with_reducible refine Blk.al ?_|with_reducible refine Blk.next ?_ (by with_reducible assumption)))):P:=h
theorem pI{P:Prop}(h:P:=by exact uR (x:=l_ y) (kP.2 (show -9223372036854775808<=y/\y<=9223372036854775807 by constructor<;>omega)) (show (Lit.int .i64 1).wf=true by decide) (show ([]:Str).length<=maxLen by decide)):P:=h
theorem uu{P:Prop}(h:P:=by
 show ∀i,i<7->_;refine On (On ?_ eh) eB;refine On ?_ (tn [] [] [] (h:=λγ wv R K M hK=>by go_simp;go_at_call 159;refine(Lk x.kind _).mono ?_;rintro e w' ⟨rfl,rfl⟩;rw[aH hx5.out];exact hK (mA 0) _ M))
 exact On (On (On (On Oz eh) (e_ [1] 0)) eh) (e_ [0] 0)):P:=h
theorem Gl{P:Prop}(h:P:=by
 show ∀i,i<26->_;refine On (On (On ?_ eh) eB) eB;refine On ?_ (mW [1] (h:=λγ wv K M hK=>by have c0:wv.cell? ⟨gc,j*10+1,none⟩=some (.int .i64 xj.value.kind):=M.kindAt hxj.out;clear M;go_simp;exact hK))
 refine On (On (On (On (On (On (On (On ?_ eh) eB) eh) (e_ [2] 0)) eB) eh) eh) eh;refine On ?_ (mW [1] (h:=λγ wv K M hK=>by have c0:wv.cell? ⟨gc,i*10+1,none⟩=some (.int .i64 xi.value.kind):=M.kindAt TD.out;clear M;go_simp;exact hK))
 refine On (On (On ?_ eh) eh) eh;refine On ?_ (mW [0] (h:=λγ wv K M hK=>by have c0:wv.cell? _=some (.int .i64 ((i:Nat):Int)):=(M.intAt (k:=p) X5.out).1;clear M;go_simp;exact hK))
 exact On (On (On (On (On (On (On (On (On Oz eB) eh) eB) eh) (e_ [2] 0)) eh) (e_ [2] 2)) eB) eh):P:=h
theorem GB{P:Prop}(h:P:=by rw[acV.out];have q1:=fr.right.tail;have qP:=fr.left;have q2:=q1.right;have q3:=q2.right;have f1:=q1.left;have f2:=q2.left;have f3:=q3.left;have f4:=q3.right;refine jD (x:={x.value with parts:=x.parts.map (asm h (d - 1))}) wk ?_ ?_ ?_ ?_ ?_ xF I9;all_goals (repeat'(first|with_reducible assumption|with_reducible refine gX ?_|with_reducible refine fK ?_|with_reducible refine ft ?_ ?_|with_reducible exact fS|with_reducible refine fR ?_ ?_|(with_reducible refine Fresh.notin (by with_reducible assumption) ?_;((try simp only[dW,dT,dX]);omega))|(with_reducible refine Lo.notin (by with_reducible assumption) ?_;((try simp only[dW,dT,dX]);omega))|with_reducible refine em ?_ (by with_reducible assumption)))):P:=h
theorem GI{P:Prop}(h:P:=by have kB:=M.bl 0 rfl;have c0:wv.cell? _=some _:=kB.cell 0;have f0:=kB.frozen 0;have c1:wv.cell? _=some _:=kB.cell 1;have f1:=kB.frozen 1;have c2:wv.cell? _=some _:=kB.cell 2;have f2:=kB.frozen 2;have c3:wv.cell? _=some _:=kB.cell 3;have f3:=kB.frozen 3;have c4:wv.cell? _=some _:=kB.cell 4;have f4:=kB.frozen 4;have c5:wv.cell? _=some _:=kB.cell 5;have f5:=kB.frozen 5;have c6:wv.cell? _=some _:=kB.cell 6;have f6:=kB.frozen 6;have c7:wv.cell? _=some _:=kB.cell 7;have f7:=kB.frozen 7;have c8:wv.cell? _=some _:=kB.cell 8;have f8:=kB.frozen 8;have c9:wv.cell? _=some _:=kB.cell 9;have f9:=kB.frozen 9;have hg:=kB.lt;go_simp;exact hK (mA 0) _ ((((((((((M.put 0 _).put 1 _).put 2 _).put 3 _).put 4 _).put 5 _).put 6 _).put 7 _).put 8 _).put 9 _)):P:=h
theorem nV{P:Prop}(h:P:=by
 have j0:(0:Int)<=(q:Int):=by omega
 have j1:(q:Int)<((max its.length (q+1):Nat):Int):=by omega
 go_simp;exact hK):P:=h
theorem yz{P:Prop}(h:P:=by
 rw[qC HX.out];show own prog _ (.sl ((((v.parts.take j).foldl (js (fL f)) (h,[])).2++[(fL f ((v.parts.take j).foldl (js (fL f)) (h,[])).1 p).2]).map (D.i .i64))) _ _ _;rw[<-HQ.out,aI];exact ft o5 (λhm=>by
  rcases Tt _ hm with h1|h1
  ·have:=qL.2 _ h1;simp at this;omega
  ·simp at h1;omega)):P:=h
theorem Hh{P:Prop}(h:P:=by
 have B2:=jN (B:=w.heap.size) (a:=w) (by(repeat'(first|with_reducible assumption|with_reducible exact Below.refl _ _|with_reducible refine jR ?_|with_reducible refine gT ?_ ?_|with_reducible refine ie ?_ ?_|with_reducible refine gR ?_ (by with_reducible assumption) ?_|((try simp only[dW,dT,dX]);omega)))) rN (λy hy=>by have:=fr.2 y hy;omega) (by((try simp only[dW,dT,dX]);omega))
 (repeat'(first|with_reducible assumption|with_reducible exact Below.refl _ _|with_reducible refine jR ?_|with_reducible refine gT ?_ ?_|with_reducible refine ie ?_ ?_|with_reducible refine gR ?_ (by with_reducible assumption) ?_|((try simp only[dW,dT,dX]);omega)))):P:=h
theorem Gu{P:Prop}(h:P:=by
 show ∀i,i<13->_;refine On ?_ (tn [0] [2] [] (h:=λγ wv R K M hK=>by have kB:=M.bl 0 rfl;have c0:wv.cell? ⟨gc,j*10,none⟩=some _:=kB.seg iZ (j:=0) rfl;have f0:=kB.frozen (j*10);have hg:=kB.lt;go_simp;exact hK (mA 0) _ (M.putSeg iZ (j:=0) (by simp))))
 refine On (On (On ?_ (eh (h:=λγ w K hK=>by go_simp;rw[FM];exact hK;omega))) eh) eh;refine On ?_ (mW [0] (h:=λγ wv K M hK=>by have kB:=M.bl 0 rfl;have c0:wv.cell? ⟨gc,j*10,none⟩=some _:=kB.seg iZ (j:=0) rfl;clear kB M;go_simp;exact hK))
 exact On (On (On (On (On (On (On (On Oz eh) (e_ [1] 0)) eB) eh) (e_ [1] 0)) eB) eh) eh):P:=h
theorem uk{P:Prop}(h:P:=by
 rcases aG.1 hy with hy|hy
 ·rcases hF3 y hy with h1|h1|h1
  ·exact .inl (by simp [h1])
  ·exact .inr (.inl h1.1)
  ·exact .inr (.inr (by omega))
 ·exact .inl (by simp at hy ⊢;exact .inr hy)):P:=h
theorem ya{P:Prop}(h:P:=by have:=Blk.new' (w:=w.alloc (.cells #[v.kind,.slice Ai ni ci,.slice Ap np cp,.slice An nn cn,.slice Ac nc cc,.slice Al nl cl,v.code,v.env] 38)) (t:=38) (l:=[.int .i64 0,.slice none 0 0,.slice none 0 0,.slice none 0 0,.slice none 0 0,.slice none 0 0,.int .i64 0,.int .i64 0]);simpa only[dT]using this):P:=h
theorem uF{P:Prop}(h:P:=by
 refine ub (X:=[g]) (Y:=Fa) (Z:=Fb++(Fs++[])) (Y':=F3) sM ap.1 (λy hy=>?_);rcases hF3 y hy with h1|h1|h1
 ·exact .inl h1
 ·exact .inr h1.2
 ·exact .inr (λhm=>by have:=hlF y hm;omega)):P:=h
theorem FY{P:Prop}(h:P:=by have kB:=M.bl 0 rfl;have c1:wv.cell? ⟨gc,i*10+1,none⟩=some _:=kB.seg iZ (j:=1) rfl;have c2:wv.cell? ⟨gc,i*10+2,none⟩=some _:=kB.seg iZ (j:=2) rfl;have c3:wv.cell? ⟨gc,i*10+3,none⟩=some _:=kB.seg iZ (j:=3) rfl;have c4:wv.cell? ⟨gc,i*10+4,none⟩=some _:=kB.seg iZ (j:=4) rfl;have c5:wv.cell? ⟨gc,i*10+5,none⟩=some _:=kB.seg iZ (j:=5) rfl;have c6:wv.cell? ⟨gc,i*10+6,none⟩=some _:=kB.seg iZ (j:=6) rfl;have c7:wv.cell? ⟨gc,i*10+7,none⟩=some _:=kB.seg iZ (j:=7) rfl;have c8:wv.cell? ⟨gc,i*10+8,none⟩=some _:=kB.seg iZ (j:=8) rfl;clear kB M;go_simp;exact hK):P:=h
theorem Gz{P:Prop}(h:P:=by
 refine jD (x:=nU l) (show (Lit.int .i64 2).wf=true by decide) ?_ ?_ ?_ ?_ ?_ (show (Lit.int .i64 0).wf=true by decide) (show (Lit.int .i64 0).wf=true by decide)
 ·have:=qL.notin (show w.heap.size<w.heap.size+1+1 by omega);exact ft (ft (ft (ft (ft (ft (ft (ft oq (by exact this)) (by exact this)) (by exact this)) (by exact this)) (by exact this)) (by exact this)) (by exact this)) (by exact this)
 ·exact kY underlying36
 ·exact kY underlying25
 ·exact kY underlying25
 ·exact kY underlying25):P:=h
theorem yC{P:Prop}(h:P:=by
 have ahv:=H3.lo y hm;rcases aX.1 hy with e|hy
 ·exact zJ y (by simp [e]) hm
 ·rcases aX.1 hy with e|hy
  ·exact zJ y (by simp [e]) hm
  ·rcases Tt y hy with h1|h1
   ·exact zJ y (by simp [h1]) hm
   ·omega):P:=h
theorem abT{P:Prop}(h:P:=by have c0:wv.cell? _=some (sv nm):=M.strAt (k:=i) hnm.out;clear M;go_simp;exact hK):P:=h
theorem ac3{P:Prop}(h:P:=by
 show ∀i,i<11->_;refine On ?_ eB;refine On ?_ (mW [1] (h:=λγ wv K M hK=>by have c0:wv.cell? _=some (.int .i64 xc.count):=M.cntAt (k:=k) hce.out;clear M;go_simp;exact hK))
 refine On (On ?_ eh) eh;refine On ?_ (mW [2] (h:=λγ wv K M hK=>by have c0:wv.cell? _=some (.int .i64 (k:Nat)):=(M.intAt (k:=i) TB.out).1;clear M;go_simp;exact hK))
 exact On (On (On (On (On (On Oz eh) (e_ [0] 0)) eh) (e_ [0] 2)) eB) eh):P:=h
theorem lB{P:Prop}(h:P:=by
 cases Hv with
 |false=>rfl
 |true=>exact absurd (h25 rfl).1 (by simp)):P:=h
theorem lA{P:Prop}(h:P:=by
 cases Dk with
 |false=>rfl
 |true=>exact absurd (QM rfl) (by simp)):P:=h
theorem pF{P:Prop}(h:P:=by
 rcases ap5.2 y hy with h1|h1|h1
 ·exact .inl h1
 ·simp at h1
 ·exact .inr (by omega)):P:=h
theorem yq{P:Prop}(h:P:=by refine(Mod.trans (Mod.trans (gU (nO (gU mx (Below.refl _ _).drew) m3 (kj sj) (af _)) x4) md5 (λy hy=> .inr (by have:=qL.2 y hy;omega))) (Mod.poke (F:=[w.heap.size+1]) (by simp) _) (λy hy=> .inr (by simp at hy;omega)))):P:=h
theorem uD{P:Prop}(h:P:=by
 rcases ap.2 y hy with h1|h1|h1
 ·exact .inl h1
 ·exact .inr (.inl ⟨h1,hd y h1⟩)
 ·exact .inr (.inr (by simp only[dW,dT]at h1;omega))):P:=h
theorem ado{P:Prop}(h:P:=by go_simp;go_at_call 38;refine(tJ h gK.out fr _ _ (M.arg oD)).mono ?_;rintro e w' ⟨rfl,hb⟩;rw[Tr.out];exact hK (mA 0) w' (M.next hb)):P:=h
theorem adp{P:Prop}(h:P:=by go_simp;go_at_call 38;refine(tJ h gK.out nm _ _ (M.arg oD)).mono ?_;rintro e w' ⟨rfl,hb⟩;rw[HA.out];exact hK (mA 0) w' (M.next hb)):P:=h
theorem GU{P:Prop}(h:P:=by
 have rnU:=Kz (M.rp 1 rfl);obtain⟨_,_,_,he,-,-,hrU,hwU⟩:=(ls _ _ _ _).1 rnU;injection he with he;injection he with e1 e2 e3;subst e1 e2 e3
 exact pO (f:=D.s) encS M jm (by kernel_rfl) gW iK rfl (.tmp 246) (.tmp 248) rfl rfl (((i7 12).A 3)) rv.names.length (((i7 12).C 3)) _ _ rfl hrU (λy hy w'=>by rw[own];exact⟨rfl,rfl,hwU y hy⟩) (by omega) (by unfold maxLen;omega) λA' c' w' M'=>hK (Ov A' c') w' M'):P:=h
theorem GY{P:Prop}(h:P:=by have:=Blk.mod (t:=38) (cs:=Bj) (g:=w.heap.size) (by(repeat'(first|with_reducible assumption|with_reducible exact Blk.new'|with_reducible exact Blk.newd|with_reducible apply Blk.set8|(with_reducible refine Blk.pk ?_ ?_;((try simp only[dW,dT,dX]);omega))|with_reducible refine Blk.dw ?_|with_reducible refine Blk.al ?_|with_reducible refine Blk.next ?_ (by with_reducible assumption)))) rN (fr.notin (by omega));exact this.pk (by simp only;omega)):P:=h
theorem mf{P:Prop}(h:P:=by go_simp;first|exact hK|(rw[FM];exact hK;omega)):P:=h
theorem FZ{P:Prop}(h:P:=by
 show ∀i,i<11->_;refine On (On (On (On (On ?_ eB) eB) eB) eB) eB;refine On ?_ (tn [] [2] [] (h:=λγ wv R K M hK=>by go_simp;go_at_call 117;exact Mw (Zb.out _ (M.arg mP)) M hK))
 refine On (On (On ?_ eh) (e_ [1] 3)) (lL [0]);refine On ?_ (tn [] [] [] (h:=λγ wv R K M hK=>by go_simp;go_at_call 118;exact f_ (lI v _ _ (M.arg gF) (by omega)) M hK))
 exact On Oz (lL [1])):P:=h
theorem Hm{P:Prop}(h:P:=by rw[kQ];replace kQ:=aa kQ;refine Ra M [4] ?_;refine ct (Sg ?_);refine Sb M [4] 1 ?_;refine Sc (tI (Mn.out (by simpa using kQ.out) _ (M.arg fE)) M λTT wv M=>Sp ?_);refine Ss M 5 (λwv M=>Sy (dV ?_));exact vk ((((TT.A 1))),(((TT.C 1))),(((TT.A 2))),(((TT.C 2))),(((TT.A 3))),(((TT.C 3))),(((TT.A 4))),(((TT.C 4))),(((TT.A 5))),(((TT.C 5)))) _ _ (by kernel_rfl) (bO) (M.sel [0,5,1,2,3,4] (by decide))):P:=h
theorem ut{P:Prop}(h:P:=by exact iV (iV (gU (gU Mod.refl x1) x3) md (λy hy=>by simp [hy])) (Mod.poke (F:=g::(Fa++(Fb++(Fs++[])))) (by simp) _) (λ_ h=>h)):P:=h
theorem GO{P:Prop}(h:P:=by
 rw[e6];have h8:((fB.take k).flatMap Row.v++(cs'++(fB.drop (k+1)).flatMap Row.v)).length=n*s:=by rw[<-e6,gN Row.len,da,hn]
 have h9:(fB.take k).flatMap Row.v++(cs'++((fB.drop (k+1)).flatMap Row.v++pq.toList.drop (n*s)))=((fB.take k).flatMap Row.v++(cs'++(fB.drop (k+1)).flatMap Row.v))++pq.toList.drop (n*s):=by simp
 show List.take (n*s) (List.toArray _).toList=_;rw[h9,List.take_left' h8]):P:=h
theorem GC{P:Prop}(h:P:=by rw[kQ];replace kQ:=aa kQ;refine Sg (Sb M [2,4] 3 ?_);refine Sc (tI (HLV.out (by simpa using kQ.out) _ _ _ (M.arg fE) (M.arg rl)) M λRE wv M=>Sp ?_);refine Ss M 5 (λwv M=>Sy (dV ?_));exact vk ((((RE.A 1))),(((RE.C 1))),(((RE.A 2))),(((RE.C 2))),(((RE.A 3))),(((RE.C 3))),(((RE.A 4))),(((RE.C 4))),(((RE.A 5))),(((RE.C 5)))) _ _ (by kernel_rfl) (bO) (M.sel [0,5,1,2,3,4] (by decide))):P:=h
theorem GK{P:Prop}(h:P:=by have kB:=M.bl 0 rfl;have c1:wv.cell? _=some _:=kB.cell 1;have c2:wv.cell? _=some _:=kB.cell 2;have c3:wv.cell? _=some _:=kB.cell 3;have c4:wv.cell? _=some _:=kB.cell 4;have c5:wv.cell? _=some _:=kB.cell 5;have c6:wv.cell? _=some _:=kB.cell 6;have c7:wv.cell? _=some _:=kB.cell 7;have c8:wv.cell? _=some _:=kB.cell 8;clear kB M;go_simp;exact hK):P:=h
theorem GA{P:Prop}(h:P:=by
 obtain⟨b,off,x,rfl,gD,hx,xO⟩:=hr.atS hlt;have HD:=aa (Yd l k _ key hx);clear hx;go_wp2
 ·go_ret;have hq:x=key:=abU (by assumption);exact⟨eZ (by rw[HF.out,HD.out,aN hq]),rfl⟩
 ·have hq:¬x=key:=Ys (by assumption);go_round
  case rel=>exact⟨k+1,by omega,by go_num,by rw[HF.out,HD.out,aH hq]⟩
  case measure=>simp [intOf];omega):P:=h
theorem F0{P:Prop}(h:P:=by
 have t0:(x.kind==0)=true:=by simpa using k0
 have HK:=aa (show je x=(x.frm.isEmpty&&decide (x.at_=0)) by rw[HR.out,AV,aN k0]);clear k0;cases hfe:x.frm.isEmpty with
 |false=>
  go_wp2_with fail;go_ret;exact⟨dZ (by rw[HK.out,hfe];rfl),q3⟩
 |true=>
  go_wp2_with fail;go_ret;exact⟨dZ (by rw[HK.out,hfe,aj,bg];simp),q3⟩):P:=h
theorem GM{P:Prop}(h:P:=by
 have hr:Reads encS 1 w w.heap.size An h.names.length h.names:=by
  obtain⟨_,_,_,he,-,-,hr,-⟩:=(ls _ _ _ _).1 (M.rp 0 rfl);injection he with he;injection he with e1 e2 e3;subst e1 e2 e3
  exact hr
 go_simp;go_at_call 49;refine(gG _ _ _ h.names s _ hr (by unfold maxLen;omega)).mono ?_;rintro e w' ⟨rfl,rfl⟩;rw[hfi.out];exact hK (mA 0) _ M):P:=h
theorem yF{P:Prop}(h:P:=by have fr2:Fresh w.heap.size (FP++(F1++(F2++(F3++F4)))):=(fr.mono (by omega)).sub ((List.Sublist.refl _).append (List.sublist_cons_self _ _));exact fr2.perm (by simp [List.perm_iff_count];omega)):P:=h
theorem Hf{P:Prop}(h:P:=by
 subst Rh;subst r;have q1:decide (a<0)=true:=by simpa using ha
 clear ha;refine Ra M [5] ?_;refine ct (Sq ?_);refine Sb M [6] 1 ?_;refine Sc (L6 (lF h hz rk.out _ _ (M.arg oD)) M λmO wv M=>Sp ?_);refine Ss M 5 (λwv M=>?_);refine Sb M [] 1 (Sz (aO (fI ?_)));refine kN results11 M 5 ?_;exact(M.sel [0] (by decide)).retTwo):P:=h
theorem uy{P:Prop}(h:P:=by exact aE.2 ⟨(aE.1 (aQ.1 sM).2).1,hn,λa ha b hb e=>hd b hb (by subst e;simp [ha])⟩):P:=h
theorem GJ{P:Prop}(h:P:=by
 have hlq:q<(eY its (max its.length (q+1)) (⟨0,0,[]⟩:Item)).length:=by rw[pD (by omega)];omega
 obtain⟨⟨u0,c0⟩,⟨u1,c1⟩,⟨u2,c2⟩,fz,hg,M'⟩:=M.setItemG (k:=q) (aw hlq) hyy.out;have f0:=fz (q*3);have f1:=fz (q*3+1);have f2:=fz (q*3+2);clear M fz hlq;go_simp;exact hK (mA 0) _ M'):P:=h
theorem pG{P:Prop}(h:P:=by
 rcases Tt y hy with h1|h1
 ·exact qL.2 y h1
 ·exact h1):P:=h
theorem GG{P:Prop}(h:P:=by
 have hi2:v.items=[]:=aR.1 (by rw[OQ.out];exact hi);have hp2:v.parts=[]:=aR.1 (by rw[Ts.out];exact UB);have hol:PR d v=true:=by unfold PR;rw[hp2];cases d<;>rfl
 rw[hol,hi2,HC.out,List.all_nil,Bool.and_true,Bool.and_true,dL];unfold IZ;omega):P:=h
theorem ic{P:Prop}(h:P:=by exact absurd hl (by simp [CD])):P:=h
theorem Hk{P:Prop}(h:P:=by
 rw[hlt];replace hlt:=aa hlt;have Ux:q+1<=m:=by have z:=hlt.out;simp at z;omega
 obtain rfl:m=max l.length (q+1):=by omega
 refine bo (es (es (fT (dV (Sq (Sb M [2] 1 ?_))))));refine Ss M 3 (λwv M=>Sz (aO ?_));refine kN results123 M 3 ?_;exact⟨Aq,cq,Ar,cr,rfl,M.sel [0,1] (by decide)⟩):P:=h
theorem F9{P:Prop}(h:P:=by obtain⟨⟨u0,c0⟩,⟨u1,c1⟩,⟨u2,c2⟩,fz,hg,M'⟩:=M.setItemG (k:=0) (x:=y) (y:=sN t) rfl (show itOK (sN t) from⟨le,wf1,ht⟩);simp only[dx,bI]at c0 c1 c2 M';have f0:=fz 0;have f1:=fz 1;have f2:=fz 2;clear M fz;go_simp;exact hK (mA 0) _ M'):P:=h
theorem Gq{P:Prop}(h:P:=by subst Rh;subst r;skip;refine Ra M [] ?_;refine gk (ae ?_);refine Ra M [] ?_;refine ct (Sq ?_);refine Sb M [8] 2 ?_;refine Ss M 10 (λwv M=>?_);refine Sb M [] 1 (Sz (aO (fI (xt (fI ?_)))));refine kN results10 M 10 ?_;exact(M.sel [9] (by decide)).retTwo):P:=h
theorem Gs{P:Prop}(h:P:=by have:=Blk.new' (w:=w.alloc (.cells #[.int .i64 0,(),(),(),(),(),.int .i64 0,.int .i64 0] 38)) (t:=38) (l:=[.int .i64 2,.slice none 0 0,.slice none 0 0,.slice none 0 0,.slice none 0 0,.slice none 0 0,.int .i64 0,.int .i64 0]);simpa only[dT]using this):P:=h
theorem GN{P:Prop}(h:P:=by
 rw[List.eq_nil_iff_forall_not_mem];intro i hi;obtain⟨h1,o,h2,_⟩:=mem_ready.1 hi;have hlt:i<l.size:=by rw[hz l a w hI];exact(cN.1 h2).1
 have h3:l.toList[i]?=some false:=by simp [hlt]at h1;simp [hlt,h1]
 have:=YZ h3;unfold unl at hu;omega):P:=h
theorem Ga{P:Prop}(h:P:=by
 obtain⟨hm,FF,⟨_,_,rfl,⟨cs,F',rfl,kB,o⟩,rfl⟩,nd,hx⟩:=M;rw[bP]at nd hx;refine⟨F',⟨cs,kB,o,nd⟩,λx mu=>?_,hm⟩;rcases hx x (aP _ mu) with h1|h1
 ·rcases aX.1 h1 with rfl|h1
  ·exact absurd mu (aQ.1 nd).1
  ·exact .inl h1
 ·exact .inr h1):P:=h
theorem uB{P:Prop}(h:P:=by have c0:wv.cell? ⟨gc,i*10,none⟩=some (.int .i64 x.count):=M.cntAt hx.out;clear M;go_simp;exact hK):P:=h
theorem pH{P:Prop}(h:P:=by go_simp;rw[FM];exact hK;have:=xQ.out;omega):P:=h
theorem uw{P:Prop}(h:P:=by
 rcases hF3 g hm with h1|h1|h1
 ·exact Ox (by simp [h1])
 ·exact h1.2 (by simp)
 ·omega):P:=h
theorem Qs{P:Prop}(h:P:=by go_simp;go_at_call 101;refine(jd yy _ _ (M.rp 0 rfl) Sr.out).mono ?_;intro e w' hn;obtain⟨cs,rfl,M'⟩:=M.newSt hn;obtain⟨Bi,di,Bp,dp,Bn,dn,Bc,dc,Bl,dl,rfl⟩:=M'.vecL;exact hK (Ow [(none,0),(Bi,di),(Bp,dp),(Bn,dn),(Bc,dc),(Bl,dl)]) w' M'):P:=h
theorem pJ{P:Prop}(h:P:=by go_simp;exact hK (mA wv.heap.size) _ (M.emp underlying26)):P:=h
theorem GE{P:Prop}(h:P:=by
 subst Rh;subst r;have q1:decide (a<0)=true:=by simpa using ha
 clear ha;refine Ra M [0] ?_;refine ct (Sq ?_);refine Sb M [2] 1 ?_;refine Ss M 4 (λwv M=>?_);refine Sb M [] 1 (Sz (aO (fI ?_)));refine kN results10 M 4 ?_;exact(M.sel [3] (by decide)).retTwo):P:=h
theorem yA{P:Prop}(h:P:=by
 cases d with
 |zero=>rw[qU,ld]at hd;rw[hd.2]at Mb;simp at Mb
 |succ d=>rw[qU,ld]at hd;exact⟨d,by omega,qJ l1 (hd.2.2 p Mb)⟩):P:=h
theorem GL{P:Prop}(h:P:=by have:=Blk.new' (w:=w.alloc (.cells #[.slice (some ⟨b,off,none⟩) n c,.slice Am nm cm,.slice As ns ca,h.copies] 28)) (t:=38) (l:=[.int .i64 0,.slice none 0 0,.slice none 0 0,.slice none 0 0,.slice none 0 0,.slice none 0 0,.int .i64 0,.int .i64 0]);simpa only[dT]using this):P:=h
theorem yt{P:Prop}(h:P:=by obtain⟨c0,c1,c2⟩:=M.itemAt (k:=0) (x:=yy) rfl;simp only[dx,bI]at c0 c1 c2;clear M;go_simp;exact hK):P:=h
theorem ac4{P:Prop}(h:P:=by have:=Blk.new' (w:=w.alloc (.cells #[.slice A n c,.slice Am nm cm,.slice As ns ca,h.copies] 28)) (t:=38) (l:=[.int .i64 0,.slice none 0 0,.slice none 0 0,.slice none 0 0,.slice none 0 0,.slice none 0 0,.int .i64 0,.int .i64 0]);simpa only[dT]using this):P:=h
theorem E0{P:Prop}(h:P:=by refine⟨h.1,λhn=>?_⟩;obtain⟨b,off,e,hb,hc⟩:=h.2 hn;refine⟨b,off,e,db hb hd.2.size,λk x j u hx hu=>?_⟩;rw[<-hc k x j u hx hu];exact World.cell?_of_block (hd.2.block b hb (λh=>jC b off e (by injection h)))):P:=h
theorem FT{P:Prop}(h:P:=by
 obtain⟨m,h1,h2⟩:∃m:Nat,n=(m:Int)/\(m:Int)<=h0.cells.length:=by
  rw[<-Zl];unfold gH;split
  ·next m hm=>exact⟨m,rfl,by have:=tM hm;omega⟩
  ·exact⟨_,rfl,by omega⟩
 exact kP.2 (by constructor<;>omega)):P:=h
theorem Gv{P:Prop}(h:P:=by have:=Blk.new' (w:=w.alloc (.cells Bj.toArray 38)) (t:=38) (l:=[.int .i64 3,.slice none 0 0,.slice none 0 0,.slice none 0 0,.slice none 0 0,.slice none 0 0,.int .i64 0,.int .i64 0]);simp only[dT]at this;exact this):P:=h
theorem g8{P:Prop}(h:P:=by unfold maxLen;omega):P:=h
theorem um{P:Prop}(h:P:=by
 (repeat'(first|with_reducible assumption|with_reducible refine ft ?_ ?_))):P:=h
theorem yL{P:Prop}(h:P:=by
 rcases ap5.2 y hy with h1|h1|h1
 ·exact .inl h1
 ·simp at h1
 ·exact .inr h1):P:=h
theorem Ae{P:Prop}(h:P:=by go_wp2;go_ret;refine⟨rfl,⟨bs,0,x,w.heap.size,Blk.new_ w _ _,af _,hr.below ((Below.refl _ _).alloc (af _) _),by omega,by omega,by omega⟩,(Below.refl _ _).alloc (af _) _⟩):P:=h
theorem lw{P:Prop}(h:P:=by rw[bP];exact qL.1):P:=h
theorem Gx{P:Prop}(h:P:=by
 refine⟨KD.1,λy hy=>?_⟩;rcases KD.2 y hy with h1|h1|h1
 ·exact fr.2 y h1
 ·simp at h1
 ·rw[h1];((try simp only[dW,dT,dX]);omega)):P:=h
theorem GV{P:Prop}(h:P:=by have hr:=(M.joinHeap (h:=h) To).rp 0 rfl;go_simp;go_at_call 38;refine(tJ h gK.out s _ _ hr).mono ?_;rintro e w' ⟨rfl,hb⟩;rw[hci.out];exact hK (mA 0) w' (M.next hb)):P:=h
theorem GQ{P:Prop}(h:P:=by exact(Mod.mono (Mod.of_below (F:=[]) (x1.mono (af _))) (by simp)).trans rN (λy hy=> .inl (aP _ (by rcases aX.1 hy with e|hy;(subst e;exact Po);exact ZK y hy)))):P:=h
theorem GW{P:Prop}(h:P:=by
 have hyF:=ZK y (hG6 y hy);rcases aX.1 hm with e|hm
 ·subst e;exact(aQ.1 H.nd).1 hyF
 ·rcases TA y hm with h1|h1
  ·simp at h1
  ·exact h1.2 (hG6 y hy)):P:=h
theorem F_{P:Prop}(h:P:=by
 have z:y.num - 1=(q:Int):=by have:=Yb.out;omega
 go_simp;rw[FM];exact hK;have:=Yb.out;have:=(ay.1 Tz.out).1;omega):P:=h
theorem Gg{P:Prop}(h:P:=by
 intro l
 induction l with
 |nil=>intro h;simp at h
 |cons a t ih=>
  intro h;rw[br,gv];rcases aX.1 h with rfl|h
  ·omega
  ·have:=ih h;omega):P:=h
theorem yj{P:Prop}(h:P:=by rw[qC HX.out];exact H5.pk (p:=⟨w.heap.size+1,9,none⟩) (zJ _ (by simp))):P:=h
theorem Gw{P:Prop}(h:P:=by
 induction l with
 |nil=>simp [gv]
 |cons x t ih=>
  rw[gv];have a:=h x aT;have b:=ih λd hd=>h d (aP _ hd);rw[bU,Nat.add_mul];omega):P:=h
theorem yo{P:Prop}(h:P:=by rw[L8];replace L8:=aa L8;exfalso;have a:=kQ.out;have b:=L8.out;rw[a]at b;cases b):P:=h
theorem yr{P:Prop}(h:P:=by have c0:wv.cell? _=some (.int .i64 p):=(M.intAt (k:=0) rfl).1;clear M;go_simp;exact hK):P:=h
theorem FW{P:Prop}(h:P:=by
 rw[Nat.max_eq_left h,pE h,jn,sQ hn];congr 1;unfold gS;rcases hn with rfl|hn
 ·simp
 ·split
  ·simp_all
  ·rw[pE (by omega)]):P:=h
theorem Gj{P:Prop}(h:P:=by have hr:=(M.joinHeap (h:=h) wc).rp 0 rfl;go_simp;go_at_call 53;exact tI (by rw[<-hvv.out];exact rV h hz 3 _ _ _ hr hd.out) M hK):P:=h
theorem F8{P:Prop}(h:P:=by
 rcases aG.1 hg with hg|hg
 ·rcases k3 g hg with h7|h7
  ·exact h3 g (by simp [h7])
  ·right;omega
 ·exact h3 g (by simp [hg])):P:=h
theorem Gm{P:Prop}(h:P:=by show ∀i,i<11->_;exact On (On (On (On (On (On (On (On (On (On (On Oz eh) (e_ [0] 0)) eB) eB) eB) eB) eB) eB) eB) eB) eB):P:=h
theorem yH{P:Prop}(h:P:=by
 rcases Tt y hy with h1|h1
 ·exact qL.2 y h1
 ·omega):P:=h
theorem tl{P:Prop}(h:P:=by go_simp;exact hK):P:=h
theorem Ge{P:Prop}(h:P:=by
 obtain rfl:len=k:=by omega
 go_wp2;go_ret;exact⟨eZ (by rw[HF.out,cM (by rw[hr.len];omega)];rfl),rfl⟩):P:=h
theorem GX{P:Prop}(h:P:=by go_simp;go_at_call 129;exact QE (x9 [nm] _ 1 _ _ (VL (M.bl 0 rfl)) (by decide) (by simpa using AS.out)) M hK):P:=h
theorem GS{P:Prop}(h:P:=by go_simp;go_at_call 113;exact QE (xS [nm] _ 1 _ _ (VL (M.bl 0 rfl)) (by decide) (by simpa using AS.out)) M hK):P:=h
theorem lz{P:Prop}(h:P:=by exact em ZY x4):P:=h
theorem yI{P:Prop}(h:P:=by simp only[fG,ax,aL]at hk;exact hk.1.1.1.2):P:=h
theorem Hb{P:Prop}(h:P:=by obtain⟨c0,c1,c2⟩:=M.itemAt (k:=0) (x:=py) rfl;simp only[dx,bI]at c0 c1 c2;clear M;go_simp;exact hK):P:=h
theorem F7{P:Prop}(h:P:=by have kB:=M.bl 0 rfl;have c9:wv.cell? ⟨gc,i*10+9,none⟩=some _:=kB.seg iZ (j:=9) rfl;clear kB M;go_simp;exact hK):P:=h
theorem yE{P:Prop}(h:P:=by go_simp;exact hK (mA wv.heap.size) _ (M.emp underlying25)):P:=h
theorem Hd{P:Prop}(h:P:=by
 rcases cP i p with h1|h1
 ·exact h i y h1 hy
 ·obtain rfl:i=p:=by omega
  rw[hx]at hy;injection hy with hy;subst hy;exact hf):P:=h
theorem Hg{P:Prop}(h:P:=by rw[eJ HX.out,cj,aS,aC (l:=x.parts) (by rw[Mn.out];omega)];simp):P:=h
theorem yM{P:Prop}(h:P:=by rw[hG];replace hG:=aa hG;exfalso;have z:=hG.out;simp at z;omega):P:=h
theorem GT{P:Prop}(h:P:=by go_simp;go_at_call 55;exact M.heapCall (h':=h2) (λF HF _=>Cb.out g F _ HF) (λw' M'=>hK (mA 0) w' M')):P:=h
theorem zu{P:Prop}(h:P:=by simp only[ed]at h1;subst h1;exact absurd rfl ((aE.1 n1).2.2 y (by simp) y (by simp [hy]))):P:=h
theorem Gk{P:Prop}(h:P:=by have c0:wv.cell? _=some (.int .i64 ((j:Nat):Int)):=(M.intAt (k:=q) ZH.out).1;clear M;go_simp;exact hK):P:=h
theorem Gb{P:Prop}(h:P:=by rintro⟨h1,h2⟩;rw[aw h1]at h2;exact⟨_,aw h1,by simpa using h2⟩):P:=h
theorem Gf{P:Prop}(h:P:=by have c0:wv.cell? _=some (.int .i64 (k:Nat)):=(M.intAt (k:=j) hp.out).1;go_simp;exact hK (mA 0) _ M):P:=h
theorem Gd{P:Prop}(h:P:=by obtain⟨cs,kB,o,nd⟩:=H;exact⟨Mod.refl,g::F,⟨g::F,[],by simp,⟨cs,F,rfl,kB,o⟩,rfl⟩,nd,λy hy=> .inl hy⟩):P:=h
theorem G9{P:Prop}(h:P:=by exact Fresh.repl fr LL.out (by omega) Cf.2 (by((try simp only[dW,dT,dX]);omega)) KD):P:=h
theorem GP{P:Prop}(h:P:=by subst h0;go_wp2_with fail;go_ret;exact⟨eZ (by rw[<-HG.out,Nat.gcd_zero_right]),gD⟩):P:=h
theorem Gy{P:Prop}(h:P:=by have c0:wv.cell? ⟨lb,lo+q,none⟩=some (sv t):=(M.bel.cell hlb).trans l0;go_simp;exact hK):P:=h
theorem GH{P:Prop}(h:P:=by
 rcases cP j ops.size with hlt|tU
 ·exact hlt
 ·simp [dstOf,cI tU]at hj):P:=h
theorem FU{P:Prop}(h:P:=by
 rcases bz m with h0|h0
 ·exact h0
 ·obtain⟨b,off,h,_⟩:=hr.2 h0;cases h):P:=h
theorem Ha{P:Prop}(h:P:=by have c0:wv.cell? _=some (.int .i64 (i:Nat)):=(M.intAt (k:=ia) TB.out).1;clear M;go_simp;exact hK):P:=h
theorem GR{P:Prop}(h:P:=by obtain⟨i0,hi,rJ,tW,hz2⟩:=cZ CB;exact⟨i0,_,underlying26,hi,rJ,tW,hz2,rfl,by omega⟩):P:=h
theorem Gt{P:Prop}(h:P:=by have c0:wv.cell? _=some (.int .i64 ((41:Nat):Int)):=(M.intAt (k:=0) rfl).1;clear M;go_simp;exact hK):P:=h
theorem acA{P:Prop}(h:P:=by show ∀i,i<10->_;refine On (On ?_ eB) eB;refine On ?_ (tn [] [] [] (h:=λγ wv R K M hK=>ado));refine On (On ?_ eh) (e_ [0] 2);refine On ?_ (mW [1] (h:=λγ wv K M hK=>lC));refine On ?_ (tn [] [] [] (h:=λγ wv R K M hK=>adp));refine On (On ?_ eh) (e_ [0] 1);refine On ?_ (mW [1] (h:=λγ wv K M hK=>lC));exact Oz):P:=h
theorem FX{P:Prop}(h:P:=by show ∀i,i<16->_;refine On ?_ (tn [0,5] [6] [] (h:=λγ wv R K M hK=>yD));refine On ?_ (mW [] (h:=λγ wv K M hK=>nV));refine On ?_ (tn [] [5] [3] (h:=λγ wv R K M hK=>Qs));refine On ?_ (mW [2] (h:=λγ wv K M hK=>yv));refine On (On (On (On (On (On (On (On ?_ eh) (e_ [4] 2)) eB) eh) (e_ [4] 2)) eh) eB) eh;refine On ?_ (mW [] (h:=λγ wv K M hK=>mf));exact On (On (On Oz eh) (e_ [1] 2)) eB):P:=h
theorem yu{P:Prop}(h:P:=by have c0:wv.cell? _=some (.int .i64 ((i:Nat):Int)):=(M.intAt (k:=p) X5.out).1;clear M;go_simp;exact hK):P:=h
theorem dP{P:Prop}(h:P:=by omega):P:=h
theorem dY{P:Prop}(h:P:=by with_reducible assumption):P:=h
theorem dQ{P:Prop}(h:P:=by decide):P:=h
theorem dU{P:Prop}(h:P:=by kernel_rfl):P:=h
theorem dS{P:Prop}(h:P:=by simp;omega):P:=h
theorem eb{P:Prop}(h:P:=by unfold maxLen;omega):P:=h
theorem dR{P:Prop}(h:P:=by simp):P:=h
theorem eA{P:Prop}(h:P:=by simp only[dT];omega):P:=h
theorem tp{P:Prop}(h:P:=by rw[go];simp only[szD,aI,Aj,aY,au,br,bL,gv,bU,bf,List.take]at kD ⊢;omega):P:=h
theorem ol{P:Prop}(h:P:=by constructor<;>(try simp only[bK])<;>omega):P:=h
theorem eX{P:Prop}(h:P:=by have z:=hlt.out;simp at z;omega):P:=h
theorem fP{P:Prop}(h:P:=by constructor<;>omega):P:=h
theorem tc{P:Prop}(h:P:=by constructor<;>(try simp only)<;>omega):P:=h
theorem ko{P:Prop}(h:P:=by have q:=hlt.out;simp at q;omega):P:=h
theorem v4{P:Prop}(h:P:=by simp only[aX,df,ce]at Nc;rcases Nc with h|h|h<;>rw[h]<;>decide):P:=h
theorem eK{P:Prop}(h:P:=by simp [hy]):P:=h
theorem eV{P:Prop}(h:P:=by simp [hm]):P:=h
theorem kt{P:Prop}(h:P:=by show w.heap.size<=w.heap.size+1;omega):P:=h
theorem iT{P:Prop}(h:P:=by show w.heap.size+1≠_;omega):P:=h
theorem u9{P:Prop}(h:P:=by unfold maxLen;first|omega|decide|(simp only;omega)):P:=h
theorem kC{P:Prop}(h:P:=by simpa [aS]using fr):P:=h
theorem ky{P:Prop}(h:P:=by simpa [aS]using lo):P:=h
theorem se{P:Prop}(h:P:=by rcases aX.1 hy with e|hy;(subst e;exact Po);exact ZK y hy):P:=h
theorem fe{P:Prop}(h:P:=by simp [hg]):P:=h
theorem aaa{P:Prop}(h:P:=by rw[HC.out];exact aK (by unfold IZ;omega)):P:=h
theorem ig{P:Prop}(h:P:=by simp only;omega):P:=h
theorem sa{P:Prop}(h:P:=by have:=(ay.1 hk).1;omega):P:=h
theorem yl{P:Prop}(h:P:=by simp only[aX,df,ce]at hk5;rcases hk5 with h|h|h|h|h|h|h|h<;>rw[h]<;>decide):P:=h
theorem wi{P:Prop}(h:P:=by unfold slotD;rw[hp,aU,aw mD];rfl):P:=h
theorem jk{P:Prop}(h:P:=by simpa [CD]using hl):P:=h
theorem aai{P:Prop}(h:P:=by unfold gH;rw[hff,cM (by rw[HL.out.1];exact af _),gy,HL.out.1]):P:=h
theorem Z6{P:Prop}(h:P:=by dsimp only;rw[cL];exact(M.nil (t:=24) underlying24).sel [0,4,1,2,3,5] (by decide)):P:=h
theorem ace{P:Prop}(h:P:=by have:=hb1.size;simp only[dT]at this;omega):P:=h
theorem acC{P:Prop}(h:P:=by simp [results,results15,go_sem,r0,r1,r2,r3,r4,r5,r6,r7,Cz]):P:=h
theorem acB{P:Prop}(h:P:=by simp [results,results16,go_sem,r0,r1,r2,r3,r4,r5,r6,r7,Cz]):P:=h
theorem fO{P:Prop}(h:P:=by simp [h4]):P:=h
theorem BQ{P:Prop}(h:P:=by simpa using (aE.1 (aE.1 (aQ.1 hnd3).2).2.1).2.1):P:=h
theorem sE{P:Prop}(h:P:=by rw[HX.out];simp only[nS,HQ.out];simp;omega):P:=h
theorem kk{P:Prop}(h:P:=by simpa using CA.out):P:=h
theorem sx{P:Prop}(h:P:=by simp only[dT];have:=hb.size;omega):P:=h
theorem n_{P:Prop}(h:P:=by have z:=jC.out;simpa using z):P:=h
theorem sw{P:Prop}(h:P:=by rw[aI];exact ft Vq XJ):P:=h
theorem v2{P:Prop}(h:P:=by have q:=hlt.out;simpa using q):P:=h
theorem aab{P:Prop}(h:P:=by rw[HF.out,HM0.out,aH (by simp),aN bO,aH (by simpa using hd)];simp):P:=h
theorem B6{P:Prop}(h:P:=by have:=tx;unfold isVec at this;simp only[ax]at this;exact this.1):P:=h
theorem aad{P:Prop}(h:P:=by rw[HF.out,HM0.out,aH (by simp),aN bO,aN (by simpa using hd)]):P:=h
theorem fC{P:Prop}(h:P:=by simp only[dT,dX];omega):P:=h
theorem sm{P:Prop}(h:P:=by rcases hnn with h|h<;>simp [h]<;>omega):P:=h
theorem acW{P:Prop}(h:P:=by have g1:=wT G0 k ⟨0,zeroV,[]⟩;rw[iI hx.out,Bu,FR]at g1;omega):P:=h
theorem yc{P:Prop}(h:P:=by simp only[bU,bf];omega):P:=h
theorem sA{P:Prop}(h:P:=by rcases hnm with h|h<;>simp [h]<;>omega):P:=h
theorem v1{P:Prop}(h:P:=by rw[wG];simp only;omega):P:=h
theorem aac{P:Prop}(h:P:=by dsimp only;rw[jn,sQ hnn];exact M.sel [2,3,1,0] (by decide)):P:=h
theorem lk{P:Prop}(h:P:=by rw[Mn.out];omega):P:=h
theorem jg{P:Prop}(h:P:=by simpa using hk):P:=h
theorem wt{P:Prop}(h:P:=by simp at hx ⊢;rcases hx with hx|hx<;>simp [hx]):P:=h
theorem Ca{P:Prop}(h:P:=by unfold slotD;rw[hi,aU,aw hil];rfl):P:=h
theorem yn{P:Prop}(h:P:=by rw[go];simp only[szD,gv,bL,bf];omega):P:=h
theorem ji{P:Prop}(h:P:=by rw[HL.out];omega):P:=h
theorem qm{P:Prop}(h:P:=by simp only[dX];omega):P:=h
theorem BK{P:Prop}(h:P:=by intro u hu;obtain⟨y,_,hy⟩:=dM.1 hu;exact hone y u hy):P:=h
theorem BT{P:Prop}(h:P:=by simp [results,results154,go_sem,r0,r1,r2,r3,r4,r5,r6,r7,Cz]):P:=h
theorem wu{P:Prop}(h:P:=by rw[HL.out.1];exact af _):P:=h
theorem ab3{P:Prop}(h:P:=by rw[aI];rfl):P:=h
theorem iF{P:Prop}(h:P:=by simp [hx]):P:=h
theorem B0{P:Prop}(h:P:=by rw[<-hvv.out];exact pL h hz 3 _ _ _ (M.arg oD) hd.out):P:=h
theorem mt{P:Prop}(h:P:=by simpa using h1):P:=h
theorem aak{P:Prop}(h:P:=by cases Ht with|true=>rfl|false=>exact absurd p4 (by simp [pr])):P:=h
theorem Z8{P:Prop}(h:P:=by cases Hu with|true=>rfl|false=>exact absurd p5 (by simp [pr])):P:=h
theorem lh{P:Prop}(h:P:=by simp [pr]):P:=h
theorem aah{P:Prop}(h:P:=by cases b2 with|true=>rfl|false=>exact absurd p1 (by simp [pr])):P:=h
theorem aaf{P:Prop}(h:P:=by cases b9 with|true=>rfl|false=>exact absurd p3 (by simp [pr])):P:=h
theorem sB{P:Prop}(h:P:=by have z:=xy.out;simp at z;omega):P:=h
theorem B9{P:Prop}(h:P:=by have z:=jC.out;simp only[bB]at z;omega):P:=h
theorem sC{P:Prop}(h:P:=by rw[cg,hk];rfl):P:=h
theorem qf{P:Prop}(h:P:=by first|rfl|exact V5 x):P:=h
theorem qn{P:Prop}(h:P:=by show ¬(4:Int)=5;decide):P:=h
theorem BS{P:Prop}(h:P:=by rw[P6,hv.it.len,hv.pab.2.2,hv.na.len,hv.ca.len,hv.la.len]):P:=h
theorem si{P:Prop}(h:P:=by simp only[dW];omega):P:=h
theorem sq{P:Prop}(h:P:=by have z:=tU.out;simpa using z):P:=h
theorem abp{P:Prop}(h:P:=by intro e;cases e):P:=h
theorem BP{P:Prop}(h:P:=by rw[hz l a w hI];exact(cN.1 h2).1):P:=h
theorem B7{P:Prop}(h:P:=by rcases m2 with h|h<;>first|exact .inl h|exact .inr h.1):P:=h
theorem aaj{P:Prop}(h:P:=by unfold lenV;rw[aH (by show ¬(4:Int)=5;decide)];simp):P:=h
theorem qj{P:Prop}(h:P:=by simp at hy;simp [hy]):P:=h
theorem wg{P:Prop}(h:P:=by cases d<;>(rw[qU]at hd;exact hd.1)):P:=h
theorem sc{P:Prop}(h:P:=by rw[de];omega):P:=h
theorem sf{P:Prop}(h:P:=by simp;exact λe=>hk e.symm):P:=h
theorem ms{P:Prop}(h:P:=by simpa using hz):P:=h
theorem qk{P:Prop}(h:P:=by simpa using h2.out):P:=h
theorem ws{P:Prop}(h:P:=by rw[HL.out];exact af _):P:=h
theorem kw{P:Prop}(h:P:=by simp [h1]):P:=h
theorem Ot{P:Prop}(h:P:=by unfold IZ;omega):P:=h
theorem ab6{P:Prop}(h:P:=by rw[ld];exact o3):P:=h
theorem jj{P:Prop}(h:P:=by rw[hz2];omega):P:=h
theorem wh{P:Prop}(h:P:=by simp [inR];rw[HL.out];omega):P:=h
theorem ou{P:Prop}(h:P:=by simpa using hx0):P:=h
theorem iS{P:Prop}(h:P:=by have z:=hlt.out;simpa using z):P:=h
theorem oh{P:Prop}(h:P:=by simpa using hx):P:=h
theorem wE{P:Prop}(h:P:=by rw[fQ Ch,aN rfl]):P:=h
theorem sk{P:Prop}(h:P:=by simpa [hasN]using hb):P:=h
theorem sD{P:Prop}(h:P:=by simpa using kQ.out):P:=h
theorem r_{P:Prop}(h:P:=by have:=F.cls.1;omega):P:=h
theorem sn{P:Prop}(h:P:=by have:=F.lev.1;omega):P:=h
theorem ot{P:Prop}(h:P:=by simpa using k2):P:=h
theorem su{P:Prop}(h:P:=by rw[acZ.out];omega):P:=h
theorem sF{P:Prop}(h:P:=by have:=Ws.out;omega):P:=h
theorem gO{P:Prop}(h:P:=by rfl):P:=h
theorem mr{P:Prop}(h:P:=by simp [e]):P:=h
theorem abl{P:Prop}(h:P:=by exact gc):P:=h
theorem qe{P:Prop}(h:P:=by rw[HC.out];exact aK Ot):P:=h
theorem BV{P:Prop}(h:P:=by dsimp only;rw[cL];exact(M.nil (t:=24) underlying24).sel [0,4,1,2,3,5] dQ):P:=h
theorem BR{P:Prop}(h:P:=by rw[HF.out,HM0.out,aH dR,aN bO,aH (by simpa using hd)];simp):P:=h
theorem B8{P:Prop}(h:P:=by rw[HF.out,HM0.out,aH dR,aN bO,aN (by simpa using hd)]):P:=h
theorem BU{P:Prop}(h:P:=by dsimp only;rw[jn,sQ hnn];exact M.sel [2,3,1,0] dQ):P:=h
theorem BM{P:Prop}(h:P:=by unfold gH;rw[hff,cM wu,gy,HL.out.1]):P:=h
theorem BZ{P:Prop}(h:P:=by cases Ht with|true=>rfl|false=>exact absurd p4 lh):P:=h
theorem BJ{P:Prop}(h:P:=by cases Hu with|true=>rfl|false=>exact absurd p5 lh):P:=h
theorem BW{P:Prop}(h:P:=by cases b2 with|true=>rfl|false=>exact absurd p1 lh):P:=h
theorem BX{P:Prop}(h:P:=by cases b9 with|true=>rfl|false=>exact absurd p3 lh):P:=h
end Go.Proofs.YtekcpadlmfaihaaGreat
