/- What it is to mark a datum; an element of an owned slice, taken out and put back. -/
import Derived.Test.YtekcpadlmfaihaaGreatZA
import Derived.Test.YtekcpadlmfaihaaGreatZG
import Derived.Test.YtekcpadlmfaihaaGreatZD
namespace Go.Proofs.YtekcpadlmfaihaaGreat
open Go.RowKit Proofs.Tryz
set_option linter.unusedSimpArgs false
set_option linter.unusedVariables false
variable {d:D} {zcode zcount zden zenv zkind znum:Int} {x:Item} {l:List D} {F Fparts:List Nat} {cs:List Value} {B D_ fm fq i k ktext q:Nat} {fj:Option Addr} {w:World}
mutual
def lU:D->Nat
 | .i _ _=>1
 | .s _=>1
 | .b _=>0
 | .sl xs=>eq xs
 | .st fs=>eq fs
def eq:List D->Nat
 |[]=>0
 |x::t=>lU x+eq t
end
mutual
def AB:D->Nat->D
 | .i t _,k=> .i t k
 | .s _,k=> .s (mk k)
 | .b x,_=> .b x
 | .sl xs,k=> .sl (gl xs k)
 | .st fs,k=> .st (gl fs k)
def gl:List D->Nat->List D
 |[],_=>[]
 |x::t,k=>AB x k::gl t (k+lU x)
end
theorem pZ:∀(l:List D) (k:Nat),(gl l k).length=l.length
 |[],_=>by rw[gl]
 |x::t,k=>by rw[gl,bU,pZ t];rfl
theorem wW:∀{l:List D} {k i:Nat} {d:D},l[i]?=some d->(gl l k)[i]?=some (AB d (k+eq (l.take i)))
 |[],_,_,_,h=>by simp at h
 |x::t,k,0,d,h=>by simp at h;subst h;rw[gl];simp [eq]
 |x::t,k,i+1,d,h=>by simp at h;rw[gl,ag,wW h,cG,eq,Nat.add_assoc]
theorem jG:∀{l:List D} {i:Nat} {d:D},l[i]?=some d->eq (l.take (i+1))=eq (l.take i)+lU d
 |[],_,_,h=>by simp at h
 |x::t,0,d,h=>by simp at h;subst h;simp [eq]
 |x::t,i+1,d,h=>by simp at h;rw[cG,eq,jG h,cG,eq,Nat.add_assoc]
theorem lV:∀(l:List D) (i:Nat),eq (l.take i)<=eq l
 |[],i=>by simp
 |x::t,0=>by simp [eq]
 |x::t,i+1=>by rw[cG,eq,eq];have:=lV t i;omega
def xU (l:List D) (k i:Nat):List D:=gl (l.take i) k++l.drop i
theorem JQ (l:List D) (k:Nat):xU l k 0=l:=by simp [xU,gl]
theorem vH (h:l.length<=i):xU l k i=gl l k:=by rw[xU,aC h,cM h,bP]
theorem zR (h:l[i]?=some d):(xU l k i)[i]?=some d:=by
 have hi:=(ay.1 h).1;have hl:(gl (l.take i) k).length=i:=by rw[pZ,de];omega
 rw[xU,cV dP,hl,Nat.sub_self,List.getElem?_drop];exact h
theorem JP:∀{l:List D} {k:Nat} {d:D},gl (l++[d]) k=gl l k++[AB d (k+eq l)]
 |[],k,d=>by simp [gl,eq]
 |x::t,k,d=>by rw[cK,gl,JP,gl,eq,Nat.add_assoc];rfl
theorem sZ (h:l[i]?=some d):(xU l k i).set i (AB d (k+eq (l.take i)))=xU l k (i+1):=by
 have hi:=(ay.1 h).1;have hl:(gl (l.take i) k).length=i:=by rw[pZ,de];omega
 have h1:l.take (i+1)=l.take i++[d]:=by rw[List.take_add_one,h];rfl
 have h2:l.drop i=d::l.drop (i+1):=by rw[cR hi];rw[aw hi]at h;injection h with h;rw[h]
 rw[xU,dI _ _ dP,hl,Nat.sub_self,h2,a_,xU,h1,JP,aS];rfl
section
variable {P:Program} {w:World}
theorem zY:∀{l:List D} {e:TypeId} {F:List Nat} {css:List (List Value)},iv P w l e F css->l.length=css.length
 |[],_,_,_,h=>by rw[iv]at h;rw[h.2];rfl
 |x::t,_,_,_,h=>by rw[iv]at h;obtain⟨F1,F2,c1,c2,_,rfl,_,h5⟩:=h;simp [zY h5]
theorem Blk.put_ {g:Nat} {t:TypeId} {pre cs post:List Value} {m j o:Nat} (h:Blk w g t (pre++(cs++post))) (hp:pre.length=m) (hj:j<cs.length) (ho:o=m+j) (u:Value):Blk (w.setCell ⟨g,o,none⟩ u) g t (pre++(cs.set j u++post)):=by
 have:=h.set_ o u
 rwa [dI _ _ dP,show o - pre.length=j from by omega,List.set_append_left _ _ hj]at this
theorem Blk.elem {g:Nat} {t:TypeId} {pre cs post:List Value} {m:Nat} (h:Blk w g t (pre++(cs++post))) (hp:pre.length=m) (j:Nat) (hj:j<cs.length):w.cell? ⟨g,m+j,none⟩=some (cs[j]'hj):=by rw[h.cell,cV dP,show m+j - pre.length=j from by omega,cY hj,aw hj]
theorem Mod.poke {F:List Nat} {p:Addr} (hp:p.block∈F) (u:Value):Mod F w (w.setCell p u):=
 ⟨⟨rfl,rfl,rfl⟩,by simp [World.setCell],λg _ hn=>Below.heap_setCell w p u g (by rintro rfl;exact hn hp)⟩
theorem iV {F G:List Nat} {w' w2:World} (h:Mod F w w') (k:Mod G w' w2) (hG:∀g∈G,g∈F):Mod F w w2:=h.trans k (λg hg=> .inl (hG g hg))
theorem gU {F:List Nat} {w' w2:World} (h:Mod F w w') (k:Below w'.heap.size w' w2):Mod F w w2:=h.trans (Mod.of_below (F:=[]) k) (λg hg=>absurd hg dR)
end
theorem EV {xs:List D} {A:Option Addr}{n c:Nat} (h:rep w B (.sl xs) [.slice A n c]) (hk:k<n):
 ∃b off d cs,A=some ⟨b,off,none⟩/\b<B/\xs[k]?=some d/\rep w B d cs/\∀j u,cs[j]?=some u->w.cell? ⟨b,off+k*cs.length+j,none⟩=some u:=
 Rp (f:=id) (l:=xs) (by rw[List.map_id];exact h) hk
theorem t_ (k:Nat) (w:World) {z:Int} (hz:z=(k:Int)) (hk:(k:Int)<=1152921504606846976):
 Calls prog 74 #[z] w λe w'=>e= .returned (sv (mk k))/\Below w.heap.size w w':=by
 subst hz;exact Lm k w hk
theorem Vj (hk:k<=1152921504606846976):(mk k).length<=maxLen:=by have:=abR k;unfold maxLen;omega
theorem yZ (h:own prog w x.toD 135 F cs):∃(_:Unit),cs=[.int .i64 x.num,.int .i64 x.den,sv x.text]/\F=[]:=by
 rw[pQ,own]at h;obtain⟨KW,css,h1,rfl,h⟩:=h;rw[underlying135]at h1;injection h1 with h1
 injection h1 with h1
 subst h1;replace h:iB prog w [.i .i64 x.num,.i .i64 x.den,.s x.text] [3,3,9] F css:=h;rw[iB]at h;obtain⟨t0,u0,G0,H0,d0,e0,ht,rfl,rfl,k0,h⟩:=h;injection ht with rL rM
 subst rL rM;rw[own]at k0;obtain⟨rfl,rfl,_⟩:=k0;rw[iB]at h;obtain⟨t1,u1,G1,H1,d1,e1,ht,rfl,rfl,k1,h⟩:=h;injection ht with rL rM
 subst rL rM;rw[own]at k1;obtain⟨rfl,rfl,_⟩:=k1;rw[iB]at h;obtain⟨t2,u2,G2,H2,d2,e2,ht,rfl,rfl,k2,h⟩:=h;injection ht with rL rM
 subst rL rM;rw[own]at k2;obtain⟨rfl,rfl,_⟩:=k2;rw[iB]at h;obtain⟨_,rfl,rfl⟩:=h;exact⟨(),rfl,rfl⟩
theorem uQ (x:Item):lU x.toD=1+1+1:=by rw[pQ];simp only[lU,eq]<;>omega
theorem RD (hq:q+lU x.toD<=1152921504606846976) (aaV:znum=((q:Nat):Int)) (aaQ:zden=((q+1:Nat):Int)) (Ua:ktext=q+1+1) (lK:cs=[.int .i64 znum,.int .i64 zden,sv (mk ktext)]):own prog w (AB x.toD q) 135 ([]) cs:=by have hc:=uQ x;rw[hc]at hq;clear hc;subst aaV aaQ Ua lK;rw[pQ];simp only[AB,gl,lU];rw[own];exact⟨_,[[.int .i64 ((q:Nat):Int)],[.int .i64 ((q+1:Nat):Int)],[sv (mk (q+1+1))]],underlying135,rfl,(fg (F1:=[]) or (fg (F1:=[]) or (fg (F1:=[]) (by rw[own];exact⟨rfl,rfl,Vj dP⟩) p_)))⟩
theorem OW (h:rep w B (AB x.toD q) cs) (aaV:znum=((q:Nat):Int)) (aaQ:zden=((q+1:Nat):Int)) (Ua:ktext=q+1+1):∃(_:Unit),cs=[.int .i64 znum,.int .i64 zden,sv (mk ktext)]:=by subst aaV aaQ Ua;rw[pQ]at h;simp only[AB,gl,lU]at h;rw[rep]at h;obtain⟨css,rfl,h⟩:=h;rw[gb]at h;obtain⟨d0,css,rfl,k0,h⟩:=h;rw[rep]at k0;obtain⟨rfl,_⟩:=k0;rw[gb]at h;obtain⟨d1,css,rfl,k1,h⟩:=h;rw[rep]at k1;obtain⟨rfl,_⟩:=k1;rw[gb]at h;obtain⟨d2,css,rfl,k2,h⟩:=h;rw[rep]at k2;obtain⟨rfl,_⟩:=k2;rw[gb]at h;subst h;exact⟨(),rfl⟩
theorem jE {x:Vec} (h:own prog w x.toD 38 F cs):∃(hD:Option Addr) (hZ:Nat) (hE:Nat) (fj:Option Addr) (fq:Nat) (fm:Nat) (fU:Option Addr) (fW:Nat) (fV:Nat) (mv:Option Addr) (mH:Nat) (mz:Nat) (gm:Option Addr) (gu:Nat) (gr:Nat) (Fitems:List Nat) (Fparts:List Nat) (Fnames:List Nat) (Fcls:List Nat) (Flevels:List Nat),cs=[.int .i64 x.kind,.slice hD hZ hE,.slice fj fq fm,.slice fU fW fV,.slice mv mH mz,.slice gm gu gr,.int .i64 x.code,.int .i64 x.env]/\F=Fitems++(Fparts++(Fnames++(Fcls++(Flevels++[]))))/\own prog w (.sl (x.items.map Item.toD)) 35 Fitems [.slice hD hZ hE]/\own prog w (.sl (x.parts.map Vec.toD)) 36 Fparts [.slice fj fq fm]/\own prog w (.sl (x.names.map D.s)) 25 Fnames [.slice fU fW fV]/\own prog w (.sl (x.cls.map D.s)) 25 Fcls [.slice mv mH mz]/\own prog w (.sl (x.levels.map D.s)) 25 Flevels [.slice gm gu gr]:=by
 rw[kF,own]at h;obtain⟨KW,css,h1,rfl,h⟩:=h;rw[underlying38]at h1;injection h1 with h1
 injection h1 with h1
 subst h1;replace h:iB prog w [.i .i64 x.kind,.sl (x.items.map Item.toD),.sl (x.parts.map Vec.toD),.sl (x.names.map .s),.sl (x.cls.map .s),.sl (x.levels.map .s),.i .i64 x.code,.i .i64 x.env] [3,35,36,25,25,25,3,3] F css:=h;rw[iB]at h;obtain⟨t0,u0,G0,H0,d0,e0,ht,rfl,rfl,k0,h⟩:=h;injection ht with rL rM
 subst rL rM;rw[own]at k0;obtain⟨rfl,rfl,_⟩:=k0;rw[iB]at h;obtain⟨t1,u1,G1,H1,d1,e1,ht,rfl,rfl,k1,h⟩:=h;injection ht with rL rM
 subst rL rM;obtain⟨A1,n1,q1,rfl⟩:=fD (eW _ _ _ _ k1);rw[iB]at h;obtain⟨t2,u2,G2,H2,d2,e2,ht,rfl,rfl,k2,h⟩:=h;injection ht with rL rM
 subst rL rM;obtain⟨A2,n2,q2,rfl⟩:=fD (eW _ _ _ _ k2);rw[iB]at h;obtain⟨t3,u3,G3,H3,d3,e3,ht,rfl,rfl,k3,h⟩:=h;injection ht with rL rM
 subst rL rM;obtain⟨A3,n3,q3,rfl⟩:=fD (eW _ _ _ _ k3);rw[iB]at h;obtain⟨t4,u4,G4,H4,d4,e4,ht,rfl,rfl,k4,h⟩:=h;injection ht with rL rM
 subst rL rM;obtain⟨A4,n4,q4,rfl⟩:=fD (eW _ _ _ _ k4);rw[iB]at h;obtain⟨t5,u5,G5,H5,d5,e5,ht,rfl,rfl,k5,h⟩:=h;injection ht with rL rM
 subst rL rM;obtain⟨A5,n5,q5,rfl⟩:=fD (eW _ _ _ _ k5);rw[iB]at h;obtain⟨t6,u6,G6,H6,d6,e6,ht,rfl,rfl,k6,h⟩:=h;injection ht with rL rM
 subst rL rM;rw[own]at k6;obtain⟨rfl,rfl,_⟩:=k6;rw[iB]at h;obtain⟨t7,u7,G7,H7,d7,e7,ht,rfl,rfl,k7,h⟩:=h;injection ht with rL rM
 subst rL rM;rw[own]at k7;obtain⟨rfl,rfl,_⟩:=k7;rw[iB]at h;obtain⟨_,rfl,rfl⟩:=h;exact⟨A1,n1,q1,A2,n2,q2,A3,n3,q3,A4,n4,q4,A5,n5,q5,G1,G2,G3,G4,G5,rfl,rfl,k1,k2,k3,k4,k5⟩
theorem kE (x:Vec):lU x.toD=1+eq (x.items.map Item.toD)+eq (x.parts.map Vec.toD)+eq (x.names.map D.s)+eq (x.cls.map D.s)+eq (x.levels.map D.s)+1+1:=by rw[kF];simp only[lU,eq]<;>omega
theorem Bm {x:Vec} {hD:Option Addr} {hZ hE:Nat} {Fitems:List Nat} {Va:Nat} {fU:Option Addr} {fW fV:Nat} {Fnames:List Nat} {Vb:Nat} {mv:Option Addr} {mH mz:Nat} {Fcls:List Nat} {aez:Nat} {gm:Option Addr} {gu gr:Nat} {Flevels:List Nat} {QY:Nat} (hq:q+lU x.toD<=1152921504606846976) (T_:zkind=((q:Nat):Int)) (aaT:Va=q+1) (rA:own prog w (.sl (gl (x.items.map Item.toD) Va)) 35 Fitems [.slice hD hZ hE]) (O_:D_=q+1+eq (x.items.map Item.toD)) (kL:own prog w (.sl (gl (x.parts.map Vec.toD) D_)) 36 Fparts [.slice fj fq fm]) (aaU:Vb=q+1+eq (x.items.map Item.toD)+eq (x.parts.map Vec.toD)) (lu:own prog w (.sl (gl (x.names.map D.s) Vb)) 25 Fnames [.slice fU fW fV]) (agN:aez=q+1+eq (x.items.map Item.toD)+eq (x.parts.map Vec.toD)+eq (x.names.map D.s)) (EH:own prog w (.sl (gl (x.cls.map D.s) aez)) 25 Fcls [.slice mv mH mz]) (Xm:QY=q+1+eq (x.items.map Item.toD)+eq (x.parts.map Vec.toD)+eq (x.names.map D.s)+eq (x.cls.map D.s)) (pf:own prog w (.sl (gl (x.levels.map D.s) QY)) 25 Flevels [.slice gm gu gr]) (T9:zcode=((q+1+eq (x.items.map Item.toD)+eq (x.parts.map Vec.toD)+eq (x.names.map D.s)+eq (x.cls.map D.s)+eq (x.levels.map D.s):Nat):Int)) (aaR:zenv=((q+1+eq (x.items.map Item.toD)+eq (x.parts.map Vec.toD)+eq (x.names.map D.s)+eq (x.cls.map D.s)+eq (x.levels.map D.s)+1:Nat):Int)) (lK:cs=[.int .i64 zkind,.slice hD hZ hE,.slice fj fq fm,.slice fU fW fV,.slice mv mH mz,.slice gm gu gr,.int .i64 zcode,.int .i64 zenv]):own prog w (AB x.toD q) 38 (Fitems++(Fparts++(Fnames++(Fcls++(Flevels++[]))))) cs:=by have hc:=kE x;rw[hc]at hq;clear hc;subst T_ aaT O_ aaU agN Xm T9 aaR lK;rw[kF];simp only[AB,gl,lU];rw[own];exact⟨_,[[.int .i64 ((q:Nat):Int)],[.slice hD hZ hE],[.slice fj fq fm],[.slice fU fW fV],[.slice mv mH mz],[.slice gm gu gr],[.int .i64 ((q+1+eq (x.items.map Item.toD)+eq (x.parts.map Vec.toD)+eq (x.names.map D.s)+eq (x.cls.map D.s)+eq (x.levels.map D.s):Nat):Int)],[.int .i64 ((q+1+eq (x.items.map Item.toD)+eq (x.parts.map Vec.toD)+eq (x.names.map D.s)+eq (x.cls.map D.s)+eq (x.levels.map D.s)+1:Nat):Int)]],underlying38,rfl,(fg (F1:=[]) or (fg rA (fg kL (fg lu (fg EH (fg pf (fg (F1:=[]) or (fg (F1:=[]) or p_))))))))⟩
theorem y_ {x:Vec} (h:rep w B (AB x.toD q) cs) (T_:zkind=((q:Nat):Int)) (T9:zcode=((q+1+eq (x.items.map Item.toD)+eq (x.parts.map Vec.toD)+eq (x.names.map D.s)+eq (x.cls.map D.s)+eq (x.levels.map D.s):Nat):Int)) (aaR:zenv=((q+1+eq (x.items.map Item.toD)+eq (x.parts.map Vec.toD)+eq (x.names.map D.s)+eq (x.cls.map D.s)+eq (x.levels.map D.s)+1:Nat):Int)):∃(hD:Option Addr) (hZ:Nat) (hE:Nat) (fj:Option Addr) (fq:Nat) (fm:Nat) (fU:Option Addr) (fW:Nat) (fV:Nat) (mv:Option Addr) (mH:Nat) (mz:Nat) (gm:Option Addr) (gu:Nat) (gr:Nat),cs=[.int .i64 zkind,.slice hD hZ hE,.slice fj fq fm,.slice fU fW fV,.slice mv mH mz,.slice gm gu gr,.int .i64 zcode,.int .i64 zenv]/\rep w B (.sl (gl (x.items.map Item.toD) (q+1))) [.slice hD hZ hE]/\rep w B (.sl (gl (x.parts.map Vec.toD) (q+1+eq (x.items.map Item.toD)))) [.slice fj fq fm]/\rep w B (.sl (gl (x.names.map D.s) (q+1+eq (x.items.map Item.toD)+eq (x.parts.map Vec.toD)))) [.slice fU fW fV]/\rep w B (.sl (gl (x.cls.map D.s) (q+1+eq (x.items.map Item.toD)+eq (x.parts.map Vec.toD)+eq (x.names.map D.s)))) [.slice mv mH mz]/\rep w B (.sl (gl (x.levels.map D.s) (q+1+eq (x.items.map Item.toD)+eq (x.parts.map Vec.toD)+eq (x.names.map D.s)+eq (x.cls.map D.s)))) [.slice gm gu gr]:=by subst T_ T9 aaR;rw[kF]at h;simp only[AB,gl,lU]at h;rw[rep]at h;obtain⟨css,rfl,h⟩:=h;rw[gb]at h;obtain⟨d0,css,rfl,k0,h⟩:=h;rw[rep]at k0;obtain⟨rfl,_⟩:=k0;rw[gb]at h;obtain⟨d1,css,rfl,k1,h⟩:=h;obtain⟨A1,n1,q1,rfl⟩:=fD k1;rw[gb]at h;obtain⟨d2,css,rfl,k2,h⟩:=h;obtain⟨A2,n2,q2,rfl⟩:=fD k2;rw[gb]at h;obtain⟨d3,css,rfl,k3,h⟩:=h;obtain⟨A3,n3,q3,rfl⟩:=fD k3;rw[gb]at h;obtain⟨d4,css,rfl,k4,h⟩:=h;obtain⟨A4,n4,q4,rfl⟩:=fD k4;rw[gb]at h;obtain⟨d5,css,rfl,k5,h⟩:=h;obtain⟨A5,n5,q5,rfl⟩:=fD k5;rw[gb]at h;obtain⟨d6,css,rfl,k6,h⟩:=h;rw[rep]at k6;obtain⟨rfl,_⟩:=k6;rw[gb]at h;obtain⟨d7,css,rfl,k7,h⟩:=h;rw[rep]at k7;obtain⟨rfl,_⟩:=k7;rw[gb]at h;subst h;exact⟨A1,n1,q1,A2,n2,q2,A3,n3,q3,A4,n4,q4,A5,n5,q5,rfl,k1,k2,k3,k4,k5⟩
theorem jp {x:Cel} (h:own prog w x.toD 43 F cs):∃(jY:Option Addr) (ka:Nat) (j8:Nat) (j6:Option Addr) (kf:Nat) (j_:Nat) (jZ:Option Addr) (ke:Nat) (j9:Nat) (lO:Option Addr) (ma:Nat) (lX:Nat) (jt:Option Addr) (jw:Nat) (jv:Nat) (fj:Option Addr) (fq:Nat) (fm:Nat) (oH:List Nat) (oJ:List Nat) (oI:List Nat) (qO:List Nat) (m8:List Nat) (Fparts:List Nat),cs=[.int .i64 x.count,.int .i64 x.value.kind,.slice jY ka j8,.slice j6 kf j_,.slice jZ ke j9,.slice lO ma lX,.slice jt jw jv,.int .i64 x.value.code,.int .i64 x.value.env,.slice fj fq fm]/\F=(oH++(oJ++(oI++(qO++(m8++[])))))++(Fparts++[])/\own prog w (.sl (x.value.items.map Item.toD)) 35 oH [.slice jY ka j8]/\own prog w (.sl (x.value.parts.map Vec.toD)) 36 oJ [.slice j6 kf j_]/\own prog w (.sl (x.value.names.map D.s)) 25 oI [.slice jZ ke j9]/\own prog w (.sl (x.value.cls.map D.s)) 25 qO [.slice lO ma lX]/\own prog w (.sl (x.value.levels.map D.s)) 25 m8 [.slice jt jw jv]/\own prog w (.sl (x.parts.map (D.i .i64))) 26 Fparts [.slice fj fq fm]:=by
 rw[m7,own]at h;obtain⟨KW,css,h1,rfl,h⟩:=h;rw[underlying43]at h1;injection h1 with h1
 injection h1 with h1
 subst h1;replace h:iB prog w [.i .i64 x.count,x.value.toD,.sl (x.parts.map (.i .i64))] [3,38,26] F css:=h;rw[iB]at h;obtain⟨t0,u0,G0,H0,d0,e0,ht,rfl,rfl,k0,h⟩:=h;injection ht with rL rM
 subst rL rM;rw[own]at k0;obtain⟨rfl,rfl,_⟩:=k0;rw[iB]at h;obtain⟨t1,u1,G1,H1,d1,e1,ht,rfl,rfl,k1,h⟩:=h;injection ht with rL rM
 subst rL rM;obtain⟨HH,II,IQ,HW,IK,IU,HJ,IJ,IR,Mh,NC,NP,CT,Eo,EF,Ic,Ie,Id,Mk,C3,rfl,rfl,IA,IC,IB,Nt,D7⟩:=jE k1;rw[iB]at h;obtain⟨t2,u2,G2,H2,d2,e2,ht,rfl,rfl,k2,h⟩:=h;injection ht with rL rM
 subst rL rM;obtain⟨A2,n2,q2,rfl⟩:=fD (eW _ _ _ _ k2);rw[iB]at h;obtain⟨_,rfl,rfl⟩:=h;exact⟨HH,II,IQ,HW,IK,IU,HJ,IJ,IR,Mh,NC,NP,CT,Eo,EF,A2,n2,q2,Ic,Ie,Id,Mk,C3,G2,rfl,rfl,IA,IC,IB,Nt,D7,k2⟩
theorem uN (x:Cel):lU x.toD=1+lU x.value.toD+eq (x.parts.map (D.i .i64)):=by rw[m7];simp only[lU,eq]<;>omega
theorem Ry {x:Cel} {Cvalue:List Value} {Fvalue:List Nat} {Vc:Nat} (hq:q+lU x.toD<=1152921504606846976) (O9:zcount=((q:Nat):Int)) (aaX:Vc=q+1) (me:own prog w (AB x.value.toD Vc) 38 Fvalue Cvalue) (O_:D_=q+1+lU x.value.toD) (kL:own prog w (.sl (gl (x.parts.map (D.i .i64)) D_)) 26 Fparts [.slice fj fq fm]) (lK:cs=[[.int .i64 zcount],Cvalue,[.slice fj fq fm]].flatten):own prog w (AB x.toD q) 43 (Fvalue++(Fparts++[])) cs:=by have hc:=uN x;rw[hc]at hq;clear hc;subst O9 aaX O_ lK;rw[m7];simp only[AB,gl,lU];rw[own];exact⟨_,[[.int .i64 ((q:Nat):Int)],Cvalue,[.slice fj fq fm]],underlying43,rfl,(fg (F1:=[]) or (fg me (fg kL p_)))⟩
theorem ON {x:Cel} {zvalue_kind:Int} {zvalue_code:Int} {zvalue_env:Int} (h:rep w B (AB x.toD q) cs) (O9:zcount=((q:Nat):Int)) (MN:zvalue_kind=((q+1:Nat):Int)) (ML:zvalue_code=((q+1+1+eq (x.value.items.map Item.toD)+eq (x.value.parts.map Vec.toD)+eq (x.value.names.map D.s)+eq (x.value.cls.map D.s)+eq (x.value.levels.map D.s):Nat):Int)) (Pg:zvalue_env=((q+1+1+eq (x.value.items.map Item.toD)+eq (x.value.parts.map Vec.toD)+eq (x.value.names.map D.s)+eq (x.value.cls.map D.s)+eq (x.value.levels.map D.s)+1:Nat):Int)):∃(jY:Option Addr) (ka:Nat) (j8:Nat) (j6:Option Addr) (kf:Nat) (j_:Nat) (jZ:Option Addr) (ke:Nat) (j9:Nat) (lO:Option Addr) (ma:Nat) (lX:Nat) (jt:Option Addr) (jw:Nat) (jv:Nat) (fj:Option Addr) (fq:Nat) (fm:Nat),cs=[.int .i64 zcount,.int .i64 zvalue_kind,.slice jY ka j8,.slice j6 kf j_,.slice jZ ke j9,.slice lO ma lX,.slice jt jw jv,.int .i64 zvalue_code,.int .i64 zvalue_env,.slice fj fq fm]/\rep w B (.sl (gl (x.value.items.map Item.toD) (q+1+1))) [.slice jY ka j8]/\rep w B (.sl (gl (x.value.parts.map Vec.toD) (q+1+1+eq (x.value.items.map Item.toD)))) [.slice j6 kf j_]/\rep w B (.sl (gl (x.value.names.map D.s) (q+1+1+eq (x.value.items.map Item.toD)+eq (x.value.parts.map Vec.toD)))) [.slice jZ ke j9]/\rep w B (.sl (gl (x.value.cls.map D.s) (q+1+1+eq (x.value.items.map Item.toD)+eq (x.value.parts.map Vec.toD)+eq (x.value.names.map D.s)))) [.slice lO ma lX]/\rep w B (.sl (gl (x.value.levels.map D.s) (q+1+1+eq (x.value.items.map Item.toD)+eq (x.value.parts.map Vec.toD)+eq (x.value.names.map D.s)+eq (x.value.cls.map D.s)))) [.slice jt jw jv]/\rep w B (.sl (gl (x.parts.map (D.i .i64)) (q+1+lU x.value.toD))) [.slice fj fq fm]:=by subst O9 MN ML Pg;rw[m7]at h;simp only[AB,gl,lU]at h;rw[rep]at h;obtain⟨css,rfl,h⟩:=h;rw[gb]at h;obtain⟨d0,css,rfl,k0,h⟩:=h;rw[rep]at k0;obtain⟨rfl,_⟩:=k0;rw[gb]at h;obtain⟨d1,css,rfl,k1,h⟩:=h;obtain⟨WM,Yl,YE,WO,Yn,YG,WN,Ym,YF,acS,aeF,aeQ,TI,Vk,VJ,rfl,YH,YJ,YI,aeS,VK⟩:=y_ k1 rfl rfl rfl;rw[gb]at h;obtain⟨d2,css,rfl,k2,h⟩:=h;obtain⟨A2,n2,q2,rfl⟩:=fD k2;rw[gb]at h;subst h;exact⟨WM,Yl,YE,WO,Yn,YG,WN,Ym,YF,acS,aeF,aeQ,TI,Vk,VJ,A2,n2,q2,rfl,YH,YJ,YI,aeS,VK,k2⟩
theorem tC {x:Hp} (h:own prog w x.toD 28 F cs):∃(oF:Option Addr) (o8:Nat) (nR:Nat) (fU:Option Addr) (fW:Nat) (fV:Nat) (oG:Option Addr) (o9:Nat) (oM:Nat) (C1:List Nat) (Fnames:List Nat) (C2:List Nat),cs=[.slice oF o8 nR,.slice fU fW fV,.slice oG o9 oM,.int .i64 x.copies]/\F=C1++(Fnames++(C2++[]))/\own prog w (.sl (x.cells.map Cel.toD)) 24 C1 [.slice oF o8 nR]/\own prog w (.sl (x.names.map D.s)) 25 Fnames [.slice fU fW fV]/\own prog w (.sl (x.slots.map (D.i .i64))) 26 C2 [.slice oG o9 oM]:=by
 rw[uP,own]at h;obtain⟨KW,css,h1,rfl,h⟩:=h;rw[underlying28]at h1;injection h1 with h1
 injection h1 with h1
 subst h1;replace h:iB prog w [.sl (x.cells.map Cel.toD),.sl (x.names.map .s),.sl (x.slots.map (.i .i64)),.i .i64 x.copies] [24,25,26,3] F css:=h;rw[iB]at h;obtain⟨t0,u0,G0,H0,d0,e0,ht,rfl,rfl,k0,h⟩:=h;injection ht with rL rM
 subst rL rM;obtain⟨A0,n0,q0,rfl⟩:=fD (eW _ _ _ _ k0);rw[iB]at h;obtain⟨t1,u1,G1,H1,d1,e1,ht,rfl,rfl,k1,h⟩:=h;injection ht with rL rM
 subst rL rM;obtain⟨A1,n1,q1,rfl⟩:=fD (eW _ _ _ _ k1);rw[iB]at h;obtain⟨t2,u2,G2,H2,d2,e2,ht,rfl,rfl,k2,h⟩:=h;injection ht with rL rM
 subst rL rM;obtain⟨A2,n2,q2,rfl⟩:=fD (eW _ _ _ _ k2);rw[iB]at h;obtain⟨t3,u3,G3,H3,d3,e3,ht,rfl,rfl,k3,h⟩:=h;injection ht with rL rM
 subst rL rM;rw[own]at k3;obtain⟨rfl,rfl,_⟩:=k3;rw[iB]at h;obtain⟨_,rfl,rfl⟩:=h;exact⟨A0,n0,q0,A1,n1,q1,A2,n2,q2,G0,G1,G2,rfl,rfl,k0,k1,k2⟩
end Go.Proofs.YtekcpadlmfaihaaGreat
