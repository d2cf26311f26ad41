/- Tables of a region told briefly: values by what they come from, pieces by what they were. -/
import Derived.Test.YtekcpadlmfaihaaGreatYK
import Derived.Test.YtekcpadlmfaihaaGreatYM
import Derived.Test.YtekcpadlmfaihaaGreatYA
import Derived.Test.YtekcpadlmfaihaaGreatYW
import Derived.Test.YtekcpadlmfaihaaGreatYP
namespace Go.Proofs.YtekcpadlmfaihaaGreat
open Go.RowKit Proofs.Tryz
set_option maxHeartbeats 8000000
set_option maxRecDepth 100000
set_option linter.unusedSimpArgs false
set_option linter.unusedVariables false
variable {x:Cel} {h:Hp} {l:List Int} {B i p:Nat} {w:World}
def En.map {α β:Type} (g:α->β):En α->En β
 | .c x=> .c (g x)
 | .e i f=> .e i λa=>g (f a)
 | .e2 i j f=> .e2 i j λa b=>g (f a b)
 | .e3 i j k f=> .e3 i j k λa b c=>g (f a b c)
 | .e5 i j k l m f=> .e5 i j k l m λa b c d e=>g (f a b c d e)
 | .e6 i j k l m n f=> .e6 i j k l m n λa b c d e h=>g (f a b c d e h)
def En.map2 {α β δ:Type} (z:En δ) (g:α->β->δ):En α->En β->En δ
 | .c x,y=>y.map (g x)
 |x,.c y=>x.map λx=>g x y
 | .e i f,.e j h=> .e2 i j λa b=>g (f a) (h b)
 | .e i f,.e2 j k h=> .e3 i j k λa b c=>g (f a) (h b c)
 | .e2 i j f,.e k h=> .e3 i j k λa b c=>g (f a b) (h c)
 | .e2 i j f,.e2 k l h=> .e5 i j k l l λa b c d _=>g (f a b) (h c d)
 | .e i f,.e3 j k l h=> .e5 i j k l l λa b c d _=>g (f a) (h b c d)
 | .e3 i j k f,.e l h=> .e5 i j k l l λa b c d _=>g (f a b c) (h d)
 | .e3 i j k f,.e2 l m h=> .e5 i j k l m λa b c d e=>g (f a b c) (h d e)
 | .e2 i j f,.e3 k l m h=> .e5 i j k l m λa b c d e=>g (f a b) (h c d e)
 | .e5 i j k l m f,.e n h=> .e6 i j k l m n λa b c d e x=>g (f a b c d e) (h x)
 |_,_=>z
theorem En.ev_map {α β:Type} {g:α->β} {γ:Nat->Gh} (x:En α):(x.map g).ev γ=g (x.ev γ):=by cases x<;>rfl
def comp:Value->Nat->Value
 | .tuple a,k=>a.getD k undef
 | .agg a,k=>a.getD k undef
 |_,_=>undef
def As.cs:As->List Value
 | .bk _ _ cs=>cs
 | .ow _ _ cs=>cs
 |_=>[]
def As.wcs (l:List Value):As->As
 | .bk g t _=> .bk g t l
 |x=>x
def As.wc (k:Nat) (x:As) (v:Value):As:=x.wcs (x.cs.set k v)
def vS (i n:Nat):En Value:= .e i λχ=> .slice χ.a n χ.c
def vA (i n:Nat):En Value:= .e i λχ=> .slice (some ⟨χ.b,0,none⟩) n χ.c
def vV (i:Nat) (k:Int) (a b c d e:Nat) (co en:Int):En Value:= .e i λχ=> .agg #[k,.slice (χ.A 1) a (χ.C 1),.slice (χ.A 2) b (χ.C 2),.slice (χ.A 3) c (χ.C 3),.slice (χ.A 4) d (χ.C 4),.slice (χ.A 5) e (χ.C 5),co,en]
def vT (i:Nat) (k:Int) (a b c d e:Nat) (co en:Int) (y:Value):En Value:= .e i λχ=> .tuple #[.agg #[k,.slice (χ.A 1) a (χ.C 1),.slice (χ.A 2) b (χ.C 2),.slice (χ.A 3) c (χ.C 3),.slice (χ.A 4) d (χ.C 4),.slice (χ.A 5) e (χ.C 5),co,en],y]
def oS (i:Nat) (d:D) (t:TypeId) (n:Nat):En As:= .e i λχ=> .ow d t [.slice χ.a n χ.c]
def oA (i:Nat) (d:D) (t:TypeId) (n:Nat):En As:= .e i λχ=> .ow d t [.slice (some ⟨χ.b,0,none⟩) n χ.c]
def oV (i k:Nat) (d:D) (t:TypeId) (n:Nat):En As:= .e i λχ=> .ow d t [.slice (χ.A k) n (χ.C k)]
def oW (i:Nat) (d:D) (t:TypeId) (k:Int) (a b c e f:Nat) (co en:Int):En As:= .e i λχ=> .ow d t [k,.slice (χ.A 1) a (χ.C 1),.slice (χ.A 2) b (χ.C 2),.slice (χ.A 3) c (χ.C 3),.slice (χ.A 4) e (χ.C 4),.slice (χ.A 5) f (χ.C 5),co,en]
def oB (i:Nat) (t:TypeId) (cs:List Value):En As:= .e i λχ=> .bk χ.b t cs
def z8:List Value:=[.int .i64 0,.slice none 0 0,.slice none 0 0,.slice none 0 0,.slice none 0 0,.slice none 0 0,.int .i64 0,.int .i64 0]
inductive Sv where
 |v (x:En Value)
 |p (d:Nat)
 |x (d k:Nat)
 |la (r:Nat)
 |l (r k:Nat)
 |na (r:Nat)
 |n (r k:Nat)
 |i (n:Int)
 |b (x:Bool)
 |q (j o:Nat)
 |o (b o:Nat)
 |u
def Sv.en (L:List As) (N:List Re) (sH:List (En Value)):Sv->En Value
 | .v y=>y
 | .p d=>sH.getD d (.c undef)
 | .x d k=>(sH.getD d (.c undef)).map λy=>comp y k
 | .la r=> .c (.agg (L.getD r (.fa True)).cs.toArray)
 | .l r k=> .c ((L.getD r (.fa True)).cs.getD k undef)
 | .na r=>(N.getD r ⟨none,none,.c (.fa True)⟩).f.map λy=> .agg y.cs.toArray
 | .n r k=>(N.getD r ⟨none,none,.c (.fa True)⟩).f.map λy=>y.cs.getD k undef
 | .i y=> .c (.int .i64 y)
 | .b y=> .c (.bool y)
 | .q j z=> .e j λχ=> .pointer (some ⟨χ.b,z,none⟩)
 | .o g z=> .c (.pointer (some ⟨g,z,none⟩))
 | .u=> .c undef
def Sv.ev (L:List As) (N:List Re) (γ:Nat->Gh) (sH:List Value):Sv->Value
 | .v y=>y.ev γ
 | .p d=>sH.getD d undef
 | .x d k=>comp (sH.getD d undef) k
 | .la r=> .agg (L.getD r (.fa True)).cs.toArray
 | .l r k=>(L.getD r (.fa True)).cs.getD k undef
 | .na r=> .agg ((N.getD r ⟨none,none,.c (.fa True)⟩).f.ev γ).cs.toArray
 | .n r k=>((N.getD r ⟨none,none,.c (.fa True)⟩).f.ev γ).cs.getD k undef
 | .i y=> .int .i64 y
 | .b y=> .bool y
 | .q j z=> .pointer (some ⟨(γ j).b,z,none⟩)
 | .o g z=> .pointer (some ⟨g,z,none⟩)
 | .u=>undef
def x_ (L:List As) (N:List Re):List (En Value)->List Sv->List (En Value)
 |_,[]=>[]
 |sH,s::t=>s.en L N sH::x_ L N (s.en L N sH::sH) t
def Dy (L:List As) (N:List Re) (γ:Nat->Gh):Array Value->List (Option Nat)->List Value->List Sv->Array Value
 |T,d::ds,sH,s::t=>Dy L N γ (x8 T d (s.ev L N γ sH)) ds (s.ev L N γ sH::sH) t
 |T,_,_,_=>T
theorem Dz {α β:Type} (f:α->β):∀(l:List α) (d:Nat) (z:α),(l.map f).getD d (f z)=f (l.getD d z)
 |[],_,_=>rfl
 |_::_,0,_=>rfl
 |_::t,d+1,z=>Dz f t d z
theorem Sv.en_ev {L:List As} {N:List Re} {γ:Nat->Gh} {sH:List (En Value)} (s:Sv):(s.en L N sH).ev γ=s.ev L N γ (sH.map (·.ev γ)):=by
 cases s with
 |p d=>exact(Dz (·.ev γ) sH d (.c undef)).symm
 |x d k=>exact(En.ev_map _).trans (cU (comp · k) (Dz (·.ev γ) sH d (.c undef)).symm)
 |na r=>exact En.ev_map _
 |n r k=>exact En.ev_map _
 |_=>rfl
theorem K0 {L:List As} {N:List Re} {γ:Nat->Gh}:∀(ss:List Sv) (ds:List (Option Nat)) (T:Array Value) (sH:List (En Value)),Dy L N γ T ds (sH.map (·.ev γ)) ss=vR T ds ((x_ L N sH ss).map (·.ev γ))
 |[],ds,T,sH=>by cases ds<;>rfl
 |s::t,[],T,sH=>rfl
 |s::t,d::ds,T,sH=>by show Dy L N γ (x8 T d (s.ev L N γ (sH.map (·.ev γ)))) ds (s.ev L N γ (sH.map (·.ev γ))::sH.map (·.ev γ)) t=vR (x8 T d ((s.en L N sH).ev γ)) ds ((x_ L N (s.en L N sH::sH) t).map (·.ev γ));rw[<-K0 t ds _ (s.en L N sH::sH),br,Sv.en_ev]
inductive Rw where
 |e (pr:Nat) (co:Option Nat) (f:En As)
 |s (pr:Nat) (co:Option Nat) (r:Nat) (cs:List (Nat × En Value))
 |a (pr:Nat) (co:Option Nat) (r:Nat) (j:Nat)
 |x (pr:Nat) (co:Option Nat) (r:Nat) (j k:Nat)
 |b (pr:Nat) (co:Option Nat) (t:TypeId) (j:Nat)
 |d (pr:Nat) (co:Option Nat) (t:TypeId) (j k:Nat)
def BI:Value->List Value
 | .agg a=>a.toList
 |v=>[v]
def Z1:Option Sv->En Value
 |some (.v x)=>x
 |_=> .c undef
def Rw.re (ss:List Sv) (sH:List Re):Rw->Re
 | .e pr co f=>⟨some pr,co,f⟩
 | .s pr co r cs=>⟨some pr,co,cs.foldl (λf kv=>En.map2 f (As.wc kv.1) f kv.2) (sH.getD r ⟨none,none,.c (.fa True)⟩).f⟩
 | .a pr co r j=>⟨some pr,co,En.map2 (.c (.fa True)) (λx v=>x.wcs (BI v)) (sH.getD r ⟨none,none,.c (.fa True)⟩).f (Z1 ss[j]?)⟩
 | .x pr co r j k=>⟨some pr,co,En.map2 (.c (.fa True)) (λx v=>x.wcs (BI (comp v k))) (sH.getD r ⟨none,none,.c (.fa True)⟩).f (Z1 ss[j]?)⟩
 | .b pr co t j=>⟨some pr,co,En.map2 (.c (.fa True)) (λg v=> .bk g t (BI v)) (.e pr λχ=>χ.b) (Z1 ss[j]?)⟩
 | .d pr co t j k=>⟨some pr,co,En.map2 (.c (.fa True)) (λg v=> .bk g t (BI (comp v k))) (.e pr λχ=>χ.b) (Z1 ss[j]?)⟩
def pp (ss:List Sv):List Re->List Rw->List Re
 |_,[]=>[]
 |sH,r::t=>r.re ss sH::pp ss (sH++[r.re ss sH]) t
def qp:List As->List (Option Nat)->List Re
 |x::L,c::t=>⟨none,c,.c x⟩::qp L t
 |_,_=>[]
def keep:List As->List (Option Nat)->List As
 |x::L,none::t=>x::keep L t
 |_::L,some _::t=>keep L t
 |_,_=>[]
def Ud (γ:Nat->Gh):List Re->List As
 |[]=>[]
 |e::t=>match e.co with
  |none=>e.f.ev γ::Ud γ t
  |some _=>Ud γ t
def aft (L:List As) (cs:List (Option Nat)) (ss:List Sv) (nw:List Rw) (γ:Nat->Gh):List As:=keep L cs++(Ud γ (pp ss (qp L cs) nw)++L.drop cs.length)
section
variable {P:Program} {w0:World} {X:List Nat} {ops:Array Oper} {D0:List Deferred} {Tf Rf:(Nat->Gh)->Array Value} {T0:Array Value} {Q:Exit->Act->World->Prop} {id:Nat} {w:World} {L:List As} {rest:Code}
theorem On {p:Nat->Prop} {n:Nat} (h:∀i,i<n->p i) (k:p n):∀i,i<n+1->p i:=Vt h k
theorem Oz {p:Nat->Prop}:∀i,i<0->p i:=Yx
theorem CJ (M:Mem P w0 X w L) (cs:List (Option Nat)) (ss:List Sv) (nw:List Rw) (us:List (List Nat)) (old:List Nat)
 (wS:∀i,i<ops.size->sG P w0 X ops (x_ L (pp ss (qp L cs) nw) [] ss) (qp L cs++pp ss (qp L cs) nw) us D0 Rf i)
 (tT:∀γ w',Mem P w0 X w' (aft L cs ss nw γ)->Q .normal ⟨Tf γ,D0⟩ w')
 (hm:P.follows .mixedOrders=true:=by kernel_rfl) (AQ:chk ops old (x_ L (pp ss (qp L cs) nw) [] ss) (qp L cs++pp ss (qp L cs) nw) us=true:=by kernel_rfl) (gK:(x_ L (pp ss (qp L cs) nw) [] ss).length=ops.size:=by kernel_rfl)
 (hL0:∀γ,iN (qp L cs++pp ss (qp L cs) nw) γ (oZ (qp L cs++pp ss (qp L cs) nw) λ_=>false)=L.take cs.length:=by intro γ;kernel_rfl)
 (hLf:∀γ,iN (qp L cs++pp ss (qp L cs) nw) γ (oZ (qp L cs++pp ss (qp L cs) nw) λi=>decide (i<ops.size))=keep L cs++Ud γ (pp ss (qp L cs) nw):=by intro γ;kernel_rfl)
 (hT:∀γ,Dy L (pp ss (qp L cs) nw) γ T0 (ops.toList.map (·.dst)) [] ss=Tf γ:=by intro γ;(simp only[vS,vA,vV,vT,oS,oA,oV,oW,oB,z8,br,bL,Dy,Sv.ev,En.ev,En.map,En.map2,As.cs,As.wcs,As.wc,BI,comp,Z1,Rw.re,pp,qp,x8,bC,dK,cK,cJ,bP,List.getD_cons_zero,List.getD_cons_succ,ah,ag,bh,a_,be,cH,bE,bV,lH,bH,bY]);with_reducible rfl)
 (hR:∀γ,mb (Tf γ) T0 old=Rf γ:=by intro γ;(simp only[mb,cH,bE,ah,ag,bV,bh,a_,be]);with_reducible rfl):(Code.region id ops true).wp P Q ⟨T0,D0⟩ w:=
 EK (R0:=L.drop cs.length) hm AQ gK (λγ=>by rw[<-hT γ];exact(K0 ss _ T0 []).symm) hR (λγ=>by rw[hL0,cA];exact M.dw) wS (λγ w' h=>tT γ w' (by unfold aft;rw[<-aS,<-hLf];exact h))
theorem mL (M:Mem P w0 X w L) (cs:List (Option Nat)) (ss:List Sv) (nw:List Rw) (us:List (List Nat)) (old:List Nat)
 (wS:∀i,i<ops.size->sG P w0 X ops (x_ L (pp ss (qp L cs) nw) [] ss) (qp L cs++pp ss (qp L cs) nw) us D0 Rf i)
 (tT:∀γ w',Mem P w0 X w' (aft L cs ss nw γ)->rest.wp P Q ⟨Tf γ,D0⟩ w')
 (hm:P.follows .mixedOrders=true:=by kernel_rfl) (AQ:chk ops old (x_ L (pp ss (qp L cs) nw) [] ss) (qp L cs++pp ss (qp L cs) nw) us=true:=by kernel_rfl) (gK:(x_ L (pp ss (qp L cs) nw) [] ss).length=ops.size:=by kernel_rfl)
 (hL0:∀γ,iN (qp L cs++pp ss (qp L cs) nw) γ (oZ (qp L cs++pp ss (qp L cs) nw) λ_=>false)=L.take cs.length:=by intro γ;kernel_rfl)
 (hLf:∀γ,iN (qp L cs++pp ss (qp L cs) nw) γ (oZ (qp L cs++pp ss (qp L cs) nw) λi=>decide (i<ops.size))=keep L cs++Ud γ (pp ss (qp L cs) nw):=by intro γ;kernel_rfl)
 (hT:∀γ,Dy L (pp ss (qp L cs) nw) γ T0 (ops.toList.map (·.dst)) [] ss=Tf γ:=by intro γ;(simp only[vS,vA,vV,vT,oS,oA,oV,oW,oB,z8,br,bL,Dy,Sv.ev,En.ev,En.map,En.map2,As.cs,As.wcs,As.wc,BI,comp,Z1,Rw.re,pp,qp,x8,bC,dK,cK,cJ,bP,List.getD_cons_zero,List.getD_cons_succ,ah,ag,bh,a_,be,cH,bE,bV,lH,bH,bY]);with_reducible rfl)
 (hR:∀γ,mb (Tf γ) T0 old=Rf γ:=by intro γ;(simp only[mb,cH,bE,ah,ag,bV,bh,a_,be]);with_reducible rfl):(Code.seq (Code.region id ops true) rest).wp P Q ⟨T0,D0⟩ w:=
 ae (CJ M cs ss nw us old wS tT hm AQ gK hL0 hLf hT hR)
theorem aik (M:Mem P w0 X w L) (cs:List (Option Nat)) (ss:List Sv) (us:List (List Nat)) (old:List Nat)
 (wS:∀i,i<ops.size->sG P w0 X ops (x_ L ([]) [] ss) (qp L cs) us D0 Rf i)
 (tT:∀γ w',Mem P w0 X w' L->Q .normal ⟨Tf γ,D0⟩ w')
 (hm:P.follows .mixedOrders=true:=by kernel_rfl) (AQ:chk ops old (x_ L ([]) [] ss) (qp L cs) us=true:=by kernel_rfl) (gK:(x_ L ([]) [] ss).length=ops.size:=by kernel_rfl)
 (hL0:∀γ,iN (qp L cs) γ (oZ (qp L cs) λ_=>false)=L.take cs.length:=by intro γ;kernel_rfl)
 (hLf:∀γ,iN (qp L cs) γ (oZ (qp L cs) λi=>decide (i<ops.size))=L.take cs.length:=by intro γ;kernel_rfl)
 (hT:∀γ,Dy L ([]) γ T0 (ops.toList.map (·.dst)) [] ss=Tf γ:=by intro γ;(simp only[vS,vA,vV,vT,oS,oA,oV,oW,oB,z8,br,bL,Dy,Sv.ev,En.ev,En.map,En.map2,As.cs,As.wcs,As.wc,BI,comp,Z1,Rw.re,pp,qp,x8,bC,dK,cK,cJ,bP,List.getD_cons_zero,List.getD_cons_succ,ah,ag,bh,a_,be,cH,bE,bV,lH,bH,bY]);with_reducible rfl)
 (hR:∀γ,mb (Tf γ) T0 old=Rf γ:=by intro γ;(simp only[mb,cH,bE,ah,ag,bV,bh,a_,be]);with_reducible rfl):(Code.region id ops true).wp P Q ⟨T0,D0⟩ w:=
 EK (R0:=L.drop cs.length) hm AQ gK (λγ=>by rw[<-hT γ];exact(K0 ss _ T0 []).symm) hR (λγ=>by rw[hL0,cA];exact M.dw) wS (λγ w' h=>tT γ w' (by rw[hLf,cA]at h;exact h))
theorem pe (M:Mem P w0 X w L) (cs:List (Option Nat)) (ss:List Sv) (us:List (List Nat)) (old:List Nat)
 (wS:∀i,i<ops.size->sG P w0 X ops (x_ L ([]) [] ss) (qp L cs) us D0 Rf i)
 (tT:∀γ w',Mem P w0 X w' L->rest.wp P Q ⟨Tf γ,D0⟩ w')
 (hm:P.follows .mixedOrders=true:=by kernel_rfl) (AQ:chk ops old (x_ L ([]) [] ss) (qp L cs) us=true:=by kernel_rfl) (gK:(x_ L ([]) [] ss).length=ops.size:=by kernel_rfl)
 (hL0:∀γ,iN (qp L cs) γ (oZ (qp L cs) λ_=>false)=L.take cs.length:=by intro γ;kernel_rfl)
 (hLf:∀γ,iN (qp L cs) γ (oZ (qp L cs) λi=>decide (i<ops.size))=L.take cs.length:=by intro γ;kernel_rfl)
 (hT:∀γ,Dy L ([]) γ T0 (ops.toList.map (·.dst)) [] ss=Tf γ:=by intro γ;(simp only[vS,vA,vV,vT,oS,oA,oV,oW,oB,z8,br,bL,Dy,Sv.ev,En.ev,En.map,En.map2,As.cs,As.wcs,As.wc,BI,comp,Z1,Rw.re,pp,qp,x8,bC,dK,cK,cJ,bP,List.getD_cons_zero,List.getD_cons_succ,ah,ag,bh,a_,be,cH,bE,bV,lH,bH,bY]);with_reducible rfl)
 (hR:∀γ,mb (Tf γ) T0 old=Rf γ:=by intro γ;(simp only[mb,cH,bE,ah,ag,bV,bh,a_,be]);with_reducible rfl):(Code.seq (Code.region id ops true) rest).wp P Q ⟨T0,D0⟩ w:=
 ae (aik M cs ss us old wS tT hm AQ gK hL0 hLf hT hR)
end
section
variable {P:Program} {w0:World} {X:List Nat} {ops:Array Oper} {vs:List (En Value)} {rs:List Re} {us:List (List Nat)} {D0:List Deferred} {Tf:(Nat->Gh)->Array Value} {i:Nat} {o:Oper} {v:En Value}
theorem tn (ci pi ui:List Nat) (ho:ops[i]?=some o:=by rfl) (hv:vs[i]?=some v:=by rfl) (hc:(iJ rs i,lr rs i,us.getD i [])=(ci,pi,ui):=by kernel_rfl)
 (h:∀γ w R K,Mem P w0 X w (iN rs γ (ci++ui)++R)->(∀x w',Mem P w0 X w' (iN rs (xE γ i x) (pi++ui)++R)->K ((Act.mk (Tf γ) D0).put o.dst (v.ev (xE γ i x))) w')->if Region.wanted o (yielded ops (Act.mk (Tf γ) D0).tmps)=true then Oper.wp P o ⟨Tf γ,D0⟩ w K (λ_ _ _=>False) else K ((Act.mk (Tf γ) D0).put o.dst undef) w):sG P w0 X ops vs rs us D0 Tf i:=Q6 ci pi ui ho hv hc h
theorem mW (DT:List Nat) (ho:ops[i]?=some o:=by rfl) (hv:vs[i]?=some v:=by rfl) (hc:(iJ rs i,lr rs i,us.getD i [])=([],[],DT):=by kernel_rfl)
 (h:∀γ w K,Mem P w0 X w (iN rs γ DT)->K ((Act.mk (Tf γ) D0).put o.dst (v.ev γ)) w->if Region.wanted o (yielded ops (Act.mk (Tf γ) D0).tmps)=true then Oper.wp P o ⟨Tf γ,D0⟩ w K (λ_ _ _=>False) else K ((Act.mk (Tf γ) D0).put o.dst undef) w):sG P w0 X ops vs rs us D0 Tf i:=JV DT ho hv hc h
end
section
variable {P:Program} {w0 w:World} {X:List Nat} {R:List As} {f:Nat} {args:Array Value} {Ψ:Ending->World->Prop} {v:Value}
theorem f_ (h:Calls P f args w λe w'=>e= .returned v/\Below w.heap.size w w') (M:Mem P w0 X w R) (hK:∀(x:Gh) w',Mem P w0 X w' R->Ψ (.returned v) w'):Calls P f args w Ψ:=
 h.mono λe w' q=>by obtain⟨rfl,hb⟩:=q;exact hK (mA 0) w' (M.next hb)
theorem QF (h:Calls P f args w λe w'=>e= .returned v/\w=w') (M:Mem P w0 X w R) (hK:∀(x:Gh) w',Mem P w0 X w' R->Ψ (.returned v) w'):Calls P f args w Ψ:=
 h.mono λe w' q=>by obtain⟨rfl,rfl⟩:=q;exact hK (mA 0) _ M
end
def ju (w:World) (g:Nat):Nat->List Value->Prop
 |_,[]=>True
 |k,v::t=>w.cell? ⟨g,k,none⟩=some v/\ju w g (k+1) t
theorem Mx {w:World} {g:Nat} {t:TypeId} {cs:List Value} (h:Blk w g t cs):∀(l:List Value) (k:Nat),(∀i,l[i]?=cs[k+i]?)->ju w g k l
 |[],_,_=>bO
 |v::l,k,hl=>⟨by rw[h.cell,<-cF k,<-hl 0];rfl,Mx h l (k+1) λi=>by have:=hl (i+1);rw[ag]at this;rw[this];congr 1;omega⟩
theorem Blk.cells {g:Nat} {t:TypeId} {cs:List Value} (h:Blk w g t cs):ju w g 0 cs:=Mx h cs 0 λi=>by rw[bI]
def Rj (L:List As) (k:Nat):List As:=match L[k]? with
 |some x=>x::L.eraseIdx k
 |none=>L.eraseIdx k
def Rk:List Nat->List As->List As
 |[],L=>L
 |k::t,L=>Rk t (Rj L k)
theorem PW (L:List As) (k:Nat):L.Perm (Rj L k):=by
 unfold Rj;cases h:L[k]? with
 |none=>simp only;rw[List.eraseIdx_of_length_le (List.getElem?_eq_none_iff.1 h)]
 |some x=>exact wX h
theorem EB:∀(ks:List Nat) (L:List As),L.Perm (Rk ks L)
 |[],L=> .refl _
 |k::t,L=>(PW L k).trans (EB t _)
theorem NK {y x:As}:∀{L:List As} {r:Nat},L[r]?=some x->(y::L.eraseIdx r).Perm (L.set r y)
 |[],_,h=>by simp at h
 |a::t,0,h=> .refl _
 |a::t,r+1,h=>by simp at h;exact(List.Perm.swap a y _).trans ((NK h).cons a)
inductive Puts (g:Nat) (w:World) (cs:List Value):World->List Value->Prop
 |nil:Puts g w cs w cs
 |cons {w1:World} {cs1:List Value} {k:Nat} {u:Value}:Puts g w cs w1 cs1->Puts g w cs (w1.setCell ⟨g,k,none⟩ u) (cs1.set k u)
section
variable {P:Program} {ops:Array Oper} {Q:Exit->Act->World->Prop} {o:Oper} {rest:List Oper} {D0:List Deferred} {T T':Array Value} {w w' w0:World} {X:List Nat} {L L':List As} {g:Nat} {t e:TypeId} {cs cs':List Value}
theorem Mem.up (h:Mem P w0 X w L) (ks:List Nat) (hL:Rk ks L=L':=by(simp only[Rk,Rj,ag,ah,List.eraseIdx_cons_succ,List.eraseIdx_cons_zero])<;>with_reducible rfl):Mem P w0 X w L':=by subst hL;exact h.perm (EB ks L)
theorem Mem.puts {R:List As} (hp:Puts g w cs w' cs') (M:Mem P w0 X w (.bk g t cs::R)):Mem P w0 X w' (.bk g t cs'::R):=by
 induction hp with
 |nil=>exact M
 |cons _ ih=>exact ih.put _ _
theorem Mem.putAt (M:Mem P w0 X w L) {r:Nat} (hr:L[r]?=some (.bk g t cs)) (hp:Puts g w cs w' cs'):Mem P w0 X w' (L.set r (.bk g t cs')):=
 ((Mem.puts hp (M.perm (wX hr))).perm (NK hr))
def wpN (P:Program) (ops:Array Oper) (K:Act->World->Prop) (Z:Exit->Act->World->Prop):List Oper->Act->World->Prop
 |[],a,w=>K a w
 |o::t,a,w=>if Region.wanted o (yielded ops a.tmps)=true then Oper.wp P o a w (wpN P ops K Z t) Z else wpN P ops K Z t (a.put o.dst undef) w
theorem FK:∀(n:Nat) (os:List Oper) (a:Act) (w:World),wpN P ops (wpList P ops Q (os.drop n)) Q (os.take n) a w->wpList P ops Q os a w
 |0,os,a,w,h=>by simpa [wpN]using h
 |n+1,[],a,w,h=>by simpa [wpN]using h
 |n+1,o::t,a,w,h=>by
  rw[cG,dN,wpN]at h;rw[wpList];split
  ·next hw=>
   rw[aN hw]at h;exact .inl (Oper.wp_mono (λa w h=>FK n t a w h) h)
  ·next hw=>
   rw[aH hw]at h;exact FK n t _ _ h
theorem FL {K K':Act->World->Prop} {Z:Exit->Act->World->Prop} (hk:∀a w,K a w->K' a w):∀(l:List Oper) (a:Act) (w:World),wpN P ops K Z l a w->wpN P ops K' Z l a w
 |[],a,w,h=>hk a w h
 |o::t,a,w,h=>by
  unfold wpN at h ⊢;split
  ·next hw=>rw[aN hw]at h;exact Oper.wp_mono (λa w h=>FL hk t a w h) h
  ·next hw=>rw[aH hw]at h;exact FL hk t _ _ h
structure BN (P:Program) (ops:Array Oper) (K:Act->World->Prop) (Z:Exit->Act->World->Prop) (l:List Oper) (a:Act) (w:World):Prop where
 out:wpN P ops K Z l a w
structure WL (P:Program) (ops:Array Oper) (Q:Exit->Act->World->Prop) (l:List Oper) (a:Act) (w:World):Prop where
 out:wpList P ops Q l a w
theorem Qu {K:Act->World->Prop} {Z:Exit->Act->World->Prop} {o:Oper} {t:List Oper} {a:Act} {w:World} (h:if Region.wanted o (yielded ops a.tmps)=true then Oper.wp P o a w (BN P ops K Z t) Z else BN P ops K Z t (a.put o.dst undef) w):BN P ops K Z (o::t) a w:=by
 constructor;unfold wpN;split
 ·next hw=>rw[aN hw]at h;exact Oper.wp_mono (λa w h=>h.out) h
 ·next hw=>rw[aH hw]at h;exact h.out
theorem Kt {K:Act->World->Prop} {Z:Exit->Act->World->Prop} {a:Act} {w:World} (h:K a w):BN P ops K Z [] a w:=⟨h⟩
theorem oL {o:Oper} {a:Act} {w:World} (h:∀K:Act->World->Prop,(∀a w,WL P ops Q rest a w->K a w)->if Region.wanted o (yielded ops a.tmps)=true then Oper.wp P o a w K Q else K (a.put o.dst undef) w):WL P ops Q (o::rest) a w:=⟨wpList_step λK hK=>h K λa w hl=>hK a w hl.out⟩
theorem Cu (n:Nat) (os:List Oper) (a:Act) (w:World) (h:BN P ops (WL P ops Q (os.drop n)) Q (os.take n) a w):WL P ops Q os a w:=⟨FK n os a w (FL (λa w h=>h.out) _ _ _ h.out)⟩
def xm (w:World) (L:List As):List Nat->Prop
 |[]=>True
 |r::t=>(match L[r]? with
  |some (.bk g _ cs)=>ju w g 0 cs
  |_=>True)/\xm w L t
theorem Mem.facts (M:Mem P w0 X w L):∀rs:List Nat,xm w L rs
 |[]=>bO
 |r::t=>⟨by
  split
  ·next h=>exact(M.bl r h).cells
  ·trivial,Mem.facts M t⟩
theorem Sb (M:Mem P w0 X w L) (rs:List Nat) (n:Nat) {os:List Oper} (h:WL P ops Q rest ⟨T',D0⟩ w) (h0:∀(K:Act->World->Prop) (Z:Exit->Act->World->Prop),xm w L rs->K ⟨T',D0⟩ w->BN P ops K Z (os.take n) ⟨T,D0⟩ w:=by intro K Z hc hK;(simp only[xm,ju,ag,ah,Nat.reduceAdd,and_assoc]at hc);(try simp only[cG,cL]);(repeat (refine Qu ?_;go_simp;(try(rw[FM];rotate_left;omega))));exact Kt hK) (hd:os.drop n=rest:=by(simp only[dN,Hc])<;>with_reducible rfl):WL P ops Q os ⟨T,D0⟩ w:=Cu n os _ _ (h0 _ _ (M.facts rs) (by rw[hd];exact h))
theorem Ra (M:Mem P w0 X w L) (rs:List Nat) {l:List Oper} {c:Code} {id:Nat} (h:c.wp P Q ⟨T',D0⟩ w) (h0:∀(K:Act->World->Prop) (Z:Exit->Act->World->Prop),xm w L rs->K ⟨T',D0⟩ w->BN P l.toArray K Z l ⟨T,D0⟩ w:=by intro K Z hc hK;(simp only[xm,ju,ag,ah,Nat.reduceAdd,and_assoc]at hc);(try simp only[cG,cL]);(repeat (refine Qu ?_;go_simp;(try(rw[FM];rotate_left;omega))));exact Kt hK):(Code.seq (.region id l.toArray false) c).wp P Q ⟨T,D0⟩ w:=
 ae (wp_region_lit (Cu (Q:=Exit.then (c.wp P Q) Q) l.length l _ _ (by rw[cC,List.drop_length];exact h0 _ _ (M.facts rs) ⟨wpList_nil (Q:=Exit.then (c.wp P Q) Q) h⟩)).out)
theorem Rb (M:Mem P w0 X w L) (rs:List Nat) {l:List Oper} {id:Nat} (h:Q .normal ⟨T',D0⟩ w) (h0:∀(K:Act->World->Prop) (Z:Exit->Act->World->Prop),xm w L rs->K ⟨T',D0⟩ w->BN P l.toArray K Z l ⟨T,D0⟩ w:=by intro K Z hc hK;(simp only[xm,ju,ag,ah,Nat.reduceAdd,and_assoc]at hc);(try simp only[cG,cL]);(repeat (refine Qu ?_;go_simp;(try(rw[FM];rotate_left;omega))));exact Kt hK):(Code.region id l.toArray false).wp P Q ⟨T,D0⟩ w:=
 wp_region_lit (Cu l.length l _ _ (by rw[cC,List.drop_length];exact h0 _ _ (M.facts rs) ⟨wpList_nil h⟩)).out
theorem So (v:Value) (h0:∀(K:Act->World->Prop) (Z:Exit->Act->World->Prop),K ((Act.mk T D0).put o.dst v) w->if Region.wanted o (yielded ops T)=true then Oper.wp P o ⟨T,D0⟩ w K Z else K ((Act.mk T D0).put o.dst undef) w) (h:WL P ops Q rest ⟨T',D0⟩ w) (hT:(Act.mk T D0).put o.dst v=⟨T',D0⟩:=by(simp only[Act.put,bh,a_,be])<;>with_reducible rfl):WL P ops Q (o::rest) ⟨T,D0⟩ w:=oL λK hK=>h0 K Q (hK _ _ (by rw[hT];exact h))
theorem Sf {p:Prop} (hp:p) (h:WL P ops Q rest ⟨T',D0⟩ w) (h0:∀(K:Act->World->Prop) (Z:Exit->Act->World->Prop),p->K ⟨T',D0⟩ w->if Region.wanted o (yielded ops T)=true then Oper.wp P o ⟨T,D0⟩ w K Z else K ((Act.mk T D0).put o.dst undef) w:=by intro K Z hc hK;go_simp;exact hK):WL P ops Q (o::rest) ⟨T,D0⟩ w:=oL λK hK=>h0 K Q hp (hK _ _ h)
theorem Ss (M:Mem P w0 X w L) (r:Nat) (h:∀w',Mem P w0 X w' L'->WL P ops Q rest ⟨T',D0⟩ w') (hr:L[r]?=some (.bk g t cs):=by rfl) (h0:∀(K:Act->World->Prop) (Z:Exit->Act->World->Prop),ju w g 0 cs->(∀i,w.frozen? ⟨g,i,none⟩=false)->g<w.heap.size->K ⟨T',D0⟩ w'->if Region.wanted o (yielded ops T)=true then Oper.wp P o ⟨T,D0⟩ w K Z else K ((Act.mk T D0).put o.dst undef) w:=by intro K Z hc hf hg hK;simp only[ju,Nat.reduceAdd]at hc;go_simp;exact hK) (hp:Puts g w cs w' cs':=by repeat (first|with_reducible exact Puts.nil|with_reducible apply Puts.cons)) (hL:L.set r (.bk g t cs')=L':=by(simp only[a_,be])<;>with_reducible rfl):WL P ops Q (o::rest) ⟨T,D0⟩ w:=
 oL λK hK=>h0 K Q (M.bl r hr).cells (M.bl r hr).frozen (M.bl r hr).lt (hK _ _ (h _ (by rw[<-hL];exact M.putAt hr hp)))
theorem Sa (M:Mem P w0 X w L) {T1:Nat->Array Value} (h:∀(x:Gh) w',Mem P w0 X w' (.bk x.b t cs::L)->WL P ops Q rest ⟨T1 x.b,D0⟩ w') (h0:∀b,w.heap.size=b->∀(K:Act->World->Prop) (Z:Exit->Act->World->Prop),K ⟨T1 b,D0⟩ (w.alloc (.cells cs.toArray t))->if Region.wanted o (yielded ops T)=true then Oper.wp P o ⟨T,D0⟩ w K Z else K ((Act.mk T D0).put o.dst undef) w:=by intro b hb K Z hK;go_simp;exact hK):WL P ops Q (o::rest) ⟨T,D0⟩ w:=
 oL λK hK=>h0 _ rfl K Q (hK _ _ (h (mA _) _ M.all))
theorem Se (M:Mem P w0 X w L) (ht:P.underlying t=some (.slice e)) {T1:Nat->Array Value} (h:∀(x:Gh) w',Mem P w0 X w' (.ow (.sl []) t [.slice (some ⟨x.b,0,none⟩) 0 0]::L)->WL P ops Q rest ⟨T1 x.b,D0⟩ w') (h0:∀b,w.heap.size=b->∀(K:Act->World->Prop) (Z:Exit->Act->World->Prop),K ⟨T1 b,D0⟩ (w.alloc (.cells #[] e))->if Region.wanted o (yielded ops T)=true then Oper.wp P o ⟨T,D0⟩ w K Z else K ((Act.mk T D0).put o.dst undef) w:=by intro b hb K Z hK;go_simp;exact hK):WL P ops Q (o::rest) ⟨T,D0⟩ w:=
 oL λK hK=>h0 _ rfl K Q (hK _ _ (h (mA _) _ (M.emp ht)))
theorem Sc {f:Nat} {args:Array Value} (h:Calls P f args w λe w'=>∃v,e= .returned v/\WL P ops Q rest ((Act.mk T D0).put o.dst v) w') (h0:∀(K:Act->World->Prop) (Z:Exit->Act->World->Prop),(Calls P f args w λe w'=>∃v,e= .returned v/\K ((Act.mk T D0).put o.dst v) w')->if Region.wanted o (yielded ops T)=true then Oper.wp P o ⟨T,D0⟩ w K Z else K ((Act.mk T D0).put o.dst undef) w:=by intro K Z hK;go_simp;refine aF hK ?_;rintro e w' ⟨v,rfl,h⟩;exact h):WL P ops Q (o::rest) ⟨T,D0⟩ w:=
 oL λK hK=>h0 K Q (h.mono λe w' q=>by obtain⟨v,h1,h2⟩:=q;exact⟨v,h1,hK _ _ h2⟩)
theorem Sp {d:Option Tmp} {v:Value} (h:WL P ops Q rest ⟨T',D0⟩ w) (hT:(Act.mk T D0).put d v=⟨T',D0⟩:=by(simp only[Act.put,bh,a_,be])<;>with_reducible rfl):∃v',Ending.returned v= .returned v'/\WL P ops Q rest ((Act.mk T D0).put d v') w:=⟨v,rfl,by rw[hT];exact h⟩
theorem Sw {d:Option Tmp} {v:Value} (h:WL P ops Q rest ⟨T',D0⟩ w) (hT:(Act.mk T D0).put d v=⟨T',D0⟩:=by(simp only[Act.put,bh,a_,be])<;>with_reducible rfl):WL P ops Q rest ((Act.mk T D0).put d v) w:=by rw[hT];exact h
theorem Sx (M:Mem P w0 X w L) (n:Nat) (V:Gh->Value) (N:Gh->List As) {T1:Gh->Array Value} {L2:Gh->List As} (h0:∀(K:Act->World->Prop) (Z:Exit->Act->World->Prop),(∀x w',Mem P w0 X w' (N x++L.drop n)->K ((Act.mk T D0).put o.dst (V x)) w')->if Region.wanted o (yielded ops T)=true then Oper.wp P o ⟨T,D0⟩ w K Z else K ((Act.mk T D0).put o.dst undef) w) (h:∀x w',Mem P w0 X w' (L2 x)->WL P ops Q rest ⟨T1 x,D0⟩ w') (hT:∀x,(Act.mk T D0).put o.dst (V x)=⟨T1 x,D0⟩:=by intro x;(simp only[Act.put,bh,a_,be])<;>with_reducible rfl) (hL:∀x,N x++L.drop n=L2 x:=by intro x;(simp only[dN,Hc,cK,cJ])<;>with_reducible rfl):WL P ops Q (o::rest) ⟨T,D0⟩ w:=
 oL λK hK=>h0 K Q λx w' M'=>hK _ _ (by rw[hT];exact h x w' (by rw[<-hL];exact M'))
variable {size bytes n c b m:Nat} {te:TypeId} {xs:List D} {A:Option Addr} {d:D} {sl x:Operand}
theorem nQ (M:Mem P w0 X w (.ow (.sl xs) t [.slice A n c]:: .ow d e cs:: .bk b te cs::L)) (hT:ElemTy P t e size bytes) (h:∀(x:Gh) w',Mem P w0 X w' (.ow (.sl (xs++[d])) t [.slice (some ⟨x.b,0,none⟩) (n+1) x.c]:: .bk b te cs::L)->WL P ops Q rest ((Act.mk T D0).put o.dst (.slice (some ⟨x.b,0,none⟩) (n+1) x.c)) w') (kD:P.cellsOf e=size:=by kernel_rfl) (zK:o.guard=none:=by rfl) (ho:o.op= .call {callee:= .builtin .append,args:=#[sl,x],argTypes:=#[t,t]}:=by rfl) (hs:(Act.mk T D0).eval sl= .slice A n c:=by rfl) (hx:(Act.mk T D0).eval x= .slice (some ⟨b,0,none⟩) 1 m:=by rfl) (hl:cs.length=size:=by rfl) (hn:n+1<=maxLen:=by(try simp only[bf]);unfold maxLen;omega) (h63:(n+1)*bytes<=140737488355328:=by(try simp only[bf]);omega):WL P ops Q (o::rest) ⟨T,D0⟩ w:=
 oL λK hK=>mG M hT kD zK sl x ho hs hx hl hn h63 λg c' w' M'=>hK _ _ (h (R3 g c') w' M')
theorem AF {α:Type} {f:α->D} {enc:α->List Value} {A2:Option Addr} {c2 B:Nat} {l2:List α} (M:Mem P w0 X w (.ow (.sl []) t [.slice (some ⟨g,0,none⟩) 0 0]::L)) (hT:ElemTy P t e size bytes) (hr:Reads enc size w B A2 m l2) (hfl:∀x∈l2,∀w',own P w' (f x) e [] (enc x)) (mB:∀x,(enc x).length=size) (hone:∀x,∀u∈enc x,u.oneCell'=true) (h:∀(x:Gh) w',Mem P w0 X w' (.ow (.sl (l2.map f)) t [.slice x.a m x.c]::L)->WL P ops Q rest ((Act.mk T D0).put o.dst (.slice x.a m x.c)) w') (kD:P.cellsOf e=size:=by kernel_rfl) (zK:o.guard=none:=by rfl) (ho:o.op= .call {callee:= .builtin .append,args:=#[sl,x],argTypes:=#[t,t]}:=by rfl) (hs:(Act.mk T D0).eval sl= .slice (some ⟨g,0,none⟩) 0 0:=by rfl) (hx:(Act.mk T D0).eval x= .slice A2 m c2:=by rfl) (h63:m*bytes<=140737488355328:=by(try simp only[bf]);omega) (hn:m<=maxLen:=by(try simp only[bf]);unfold maxLen;omega):WL P ops Q (o::rest) ⟨T,D0⟩ w:=
 oL λK hK=>pO enc M hT kD mB hone zK sl x ho hs A2 m c2 B l2 hx hr hfl h63 hn λA' c' w' M'=>hK _ _ (h (Ov A' c') w' M')
end
section
variable {P:Program} {Q:Exit->Act->World->Prop} {a:Act} {w:World} {l:List Oper} {c:Code} {id:Nat} {ops:Array Oper} {next:Act->World->Prop}
theorem Sq (h:WL P l.toArray (Exit.then (c.wp P Q) Q) l a w):(Code.seq (.region id l.toArray false) c).wp P Q a w:=ae (wp_region_lit h.out)
theorem Sg (h:WL P l.toArray Q l a w):(Code.region id l.toArray false).wp P Q a w:=wp_region_lit h.out
theorem ct {c:Operand} {x y:Code} (h:x.wp P Q a w) (hc:a.eval c= .bool true:=by rfl):(Code.cond c x y).wp P Q a w:=wp_cond_true hc h
theorem cf {c:Operand} {x y:Code} (h:y.wp P Q a w) (hc:a.eval c= .bool false:=by rfl):(Code.cond c x y).wp P Q a w:=wp_cond_false hc h
theorem Hx {c:Operand} {x:Code} (h:next a w) (hc:a.eval c= .bool true:=by rfl):(Code.cond c .skip x).wp P (Exit.then next Q) a w:=wp_cond_true hc (bd h)
theorem gk {c:Operand} {x:Code} (h:next a w) (hc:a.eval c= .bool false:=by rfl):(Code.cond c x .skip).wp P (Exit.then next Q) a w:=wp_cond_false hc (bd h)
theorem lW {c:Operand} {x y:Code} {t:Bool} (ht:t=true->x.wp P Q a w) (hf:t=false->y.wp P Q a w) (hc:a.eval c= .bool t:=by rfl):(Code.cond c x y).wp P Q a w:=wp_cond_split hc ht hf
theorem Sz (h:next a w):WL P ops (Exit.then next Q) [] a w:=⟨wpList_nil h⟩
theorem Sy (h:Q .normal a w):WL P ops Q [] a w:=⟨wpList_nil h⟩
end
def ov (T:Array Value) (zs:List Nat) (z:Nat->Value) (ps:List (Nat × Value)):Array Value:=ps.foldl (λT p=>T.setIfInBounds p.1 p.2) (zs.foldl (λT k=>T.setIfInBounds k (z k)) T)
section
variable {P:Program} {Q:Exit->Act->World->Prop} {w w0:World} {X:List Nat} {T0 T T':Array Value} {D0:List Deferred} {c:Code} {z:Nat->Value} {zs:List Nat} {ps:List (Nat × Value)}
theorem uM (h:c.wp P Q ⟨T',D0⟩ w) (hT:ov T zs z ps=T':=by(simp only[ov,bC,dK,bh,a_,be])<;>with_reducible rfl):c.wp P Q ⟨ov T zs z ps,D0⟩ w:=by rw[hT];exact h
theorem ovx {e:Exit} (h:Q e ⟨T',D0⟩ w) (hT:ov T zs z ps=T':=by(simp only[ov,bC,dK,bh,a_,be])<;>with_reducible rfl):Q e ⟨ov T zs z ps,D0⟩ w:=by rw[hT];exact h
theorem fy {ι:Type} (zs:List Nat) (ps:ι->List (Nat × Value)) (Φ:ι->Prop) (L:ι->List As) (μ:ι->Nat) (i0:ι) (h0:Φ i0) (M:Mem P w0 X w (L i0))
 (hr:∀i z w K,Φ i->Mem P w0 X w (L i)->(∀i' T' w',ov T0 zs (λk=>T'.getD k undef) (ps i')=T'->Φ i'->μ i'<μ i->Mem P w0 X w' (L i')->K (Act.mk T' D0) w')->c.wp P (Exit.then K Q) ⟨ov T0 zs z (ps i),D0⟩ w)
 (hS:ov T0 zs (λk=>T0.getD k undef) (ps i0)=T0:=by kernel_rfl):(Code.loop c).wp P Q ⟨T0,D0⟩ w:=
 Oq (λi z=>ov T0 zs z (ps i)) Φ L μ i0 hS h0 M hr
theorem rE {ι:Type} {L0:List As} (M:Mem P w0 X w L0) (zs:List Nat) (ps:ι->List (Nat × Value)) (Φ:ι->Prop) (L:ι->List As)
 (h2:∀K:Act->World->Prop,(∀i T' w',ov T0 zs (λk=>T'.getD k undef) (ps i)=T'->Φ i->Mem P w0 X w' (L i)->K (Act.mk T' D0) w')->c.wp P (Exit.then K Q) ⟨T0,D0⟩ w)
 (h1:∀i z w,Φ i->Mem P w0 X w (L i)->Q .normal ⟨ov T0 zs z (ps i),D0⟩ w):c.wp P Q ⟨T0,D0⟩ w:=
 Y5 M (λi z=>ov T0 zs z (ps i)) Φ L h2 h1
def Ke (rs:Array ResultVar) (T:Array Value):Sem Value:=do
 let vs <-rs.mapM fun
  | .tmp t=>pure (T.getD t undef)
  | .cell a t=>do loadVar t (<-asAddr (T.getD a undef))
 pure (if h:vs.size=1 then vs[0] else .tuple vs)
def Rn (r:Result Value) (K:Value->World->Prop):Prop:=match r with
 | .ok v w=>K v w
 |_=>False
theorem Eu {r:Result Value} {v:Value} (h:∀K:Value->World->Prop,K v w->Rn r K):r= .ok v w:=by
 have:=h (λv' w'=>v'=v/\w'=w) ⟨rfl,rfl⟩;cases r with
 |ok v' w'=>obtain⟨rfl,rfl⟩:=this;rfl
 |halt x w'=>exact this.elim
variable {fn:Func} {rs:Array ResultVar} {R:Ending->World->Prop} {v:Value} {L:List As} {g g':Nat} {t t':TypeId} {cs cs':List Value}
theorem vQ (hf:fn.results=rs) (h:R (.returned v) w) (hv:∀K:Value->World->Prop,K v w->Rn ((Ke rs T).run P w) K:=by intro K hK;simp only[Ke];go_simp;exact hK):bodyPost P fn R .ret ⟨T,[]⟩ w:=bM (Eu (r:=(results fn T).run P w) (by subst hf;exact hv)) rfl h
theorem rn0 (hf:fn.results=rs) (h:R (.returned v) w) (hv:∀K:Value->World->Prop,K v w->Rn ((Ke rs T).run P w) K:=by intro K hK;simp only[Ke];go_simp;exact hK):bodyPost P fn R .normal ⟨T,[]⟩ w:=bodyPost_end (Eu (r:=(results fn T).run P w) (by subst hf;exact hv)) rfl h
theorem kN (hf:fn.results=rs) (M:Mem P w0 X w L) (r:Nat) (h:R (.returned v) w) (hr:L[r]?=some (.bk g t cs):=by rfl) (hv:∀K:Value->World->Prop,ju w g 0 cs->g<w.heap.size->K v w->Rn ((Ke rs T).run P w) K:=by intro K hc hg hK;simp only[ju,Nat.reduceAdd]at hc;simp only[Ke];go_simp;exact hK):bodyPost P fn R .ret ⟨T,[]⟩ w:=bM (Eu (r:=(results fn T).run P w) λK hK=>by subst hf;exact hv K (M.bl r hr).cells (M.bl r hr).lt hK) rfl h
end
theorem rD:ElemTy prog 26 3 1 8:=GR
section
variable {w0 w:World} {X:List Nat} {R:List As} {Ai Ap An Ac Al Aq Ah:Option Addr} {ni ci np cp nn cn nc cc nl cl nq cq nh ch:Nat}
theorem Mem.joinVec {v:Vec} (M:Mem prog w0 X w (.ow (.sl (v.items.map Item.toD)) 35 [.slice Ai ni ci]:: .ow (.sl (v.parts.map Vec.toD)) 36 [.slice Ap np cp]:: .ow (.sl (v.names.map .s)) 25 [.slice An nn cn]:: .ow (.sl (v.cls.map .s)) 25 [.slice Ac nc cc]:: .ow (.sl (v.levels.map .s)) 25 [.slice Al nl cl]::R))
 (wk:(Lit.int .i64 v.kind).wf=true) (wc:(Lit.int .i64 v.code).wf=true) (we:(Lit.int .i64 v.env).wf=true):Mem prog w0 X w (.ow v.toD 38 [v.kind,.slice Ai ni ci,.slice Ap np cp,.slice An nn cn,.slice Ac nc cc,.slice Al nl cl,v.code,v.env]::R):=
 Mem.as (C:=[_,_,_,_,_]) (C':=[_]) M λF hF _=>by obtain⟨F1,_,rfl,o1,F2,_,rfl,o2,F3,_,rfl,o3,F4,_,rfl,o4,F5,_,rfl,o5,rfl⟩:=hF;exact iQ.2 (jD wk o1 o2 o3 o4 o5 wc we)
theorem Mem.openVec {v:Vec} {cs:List Value} (M:Mem prog w0 X w (.ow v.toD 38 cs::R)):∃(Ai:Option Addr) (ni ci:Nat) (Ap:Option Addr) (np cp:Nat) (An:Option Addr) (nn cn:Nat) (Ac:Option Addr) (nc cc:Nat) (Al:Option Addr) (nl cl:Nat),cs=[.int .i64 v.kind,.slice Ai ni ci,.slice Ap np cp,.slice An nn cn,.slice Ac nc cc,.slice Al nl cl,.int .i64 v.code,.int .i64 v.env]/\
 Mem prog w0 X w (.ow (.sl (v.items.map Item.toD)) 35 [.slice Ai ni ci]:: .ow (.sl (v.parts.map Vec.toD)) 36 [.slice Ap np cp]:: .ow (.sl (v.names.map .s)) 25 [.slice An nn cn]:: .ow (.sl (v.cls.map .s)) 25 [.slice Ac nc cc]:: .ow (.sl (v.levels.map .s)) 25 [.slice Al nl cl]::R):=by
 obtain⟨F,h1,h2,h3⟩:=Mem.split [_] M;obtain⟨Ai,ni,ci,Ap,np,cp,An,nn,cn,Ac,nc,cc,Al,nl,cl,F1,F2,F3,F4,F5,rfl,rfl,o1,o2,o3,o4,o5⟩:=jE (iQ.1 h1);exact⟨Ai,ni,ci,Ap,np,cp,An,nn,cn,Ac,nc,cc,Al,nl,cl,rfl,h3 w [_,_,_,_,_] _ ⟨F1,_,rfl,o1,F2,_,rfl,o2,F3,_,rfl,o3,F4,_,rfl,o4,F5,_,rfl,o5,rfl⟩ h2 (λg hg=> .inl hg) Mod.refl⟩
theorem Mem.joinCell {x:Cel} {cs:List Value} (M:Mem prog w0 X w (.ow x.value.toD 38 cs:: .ow (.sl (x.parts.map (.i .i64))) 26 [.slice Aq nq cq]::R)) (wc:(Lit.int .i64 x.count).wf=true):
 Mem prog w0 X w (.ow x.toD 43 (.int .i64 x.count::(cs++[.slice Aq nq cq]))::R):=
 Mem.as (C:=[_,_]) (C':=[_]) M λF hF _=>by obtain⟨F1,_,rfl,o1,F2,_,rfl,o2,rfl⟩:=hF;obtain⟨Ai,ni,ci,Ap,np,cp,An,nn,cn,Ac,nc,cc,Al,nl,cl,G1,G2,G3,G4,G5,rfl,-⟩:=jE o1;exact iQ.2 (uO wc o1 o2)
theorem Mem.joinHeap {h:Hp} (M:Mem prog w0 X w (.ow (.sl (h.cells.map Cel.toD)) 24 [.slice Ah nh ch]:: .ow (.sl (h.names.map .s)) 25 [.slice An nn cn]:: .ow (.sl (h.slots.map (.i .i64))) 26 [.slice Aq nq cq]::R)) (wc:(Lit.int .i64 h.copies).wf=true):
 Mem prog w0 X w (.ow h.toD 28 [.slice Ah nh ch,.slice An nn cn,.slice Aq nq cq,h.copies]::R):=
 Mem.as (C:=[_,_,_]) (C':=[_]) M λF hF _=>by obtain⟨F1,_,rfl,o1,F2,_,rfl,o2,F3,_,rfl,o3,rfl⟩:=hF;exact iQ.2 (Da o1 o2 o3 wc)
end
theorem d_ {v:Vec} {cs:List Value} (h:rep w B v.toD cs):∃(Ai:Option Addr) (ci:Nat) (Ap:Option Addr) (cp:Nat) (An:Option Addr) (cn:Nat) (Ac:Option Addr) (cc:Nat) (Al:Option Addr) (cl:Nat),
 cs=[.int .i64 v.kind,.slice Ai v.items.length ci,.slice Ap v.parts.length cp,.slice An v.names.length cn,.slice Ac v.cls.length cc,.slice Al v.levels.length cl,.int .i64 v.code,.int .i64 v.env]/\(Lit.int .i64 v.kind).wf=true/\
 rep w B (.sl (v.items.map Item.toD)) [.slice Ai v.items.length ci]/\rep w B (.sl (v.parts.map Vec.toD)) [.slice Ap v.parts.length cp]/\rep w B (.sl (v.names.map .s)) [.slice An v.names.length cn]/\rep w B (.sl (v.cls.map .s)) [.slice Ac v.cls.length cc]/\rep w B (.sl (v.levels.map .s)) [.slice Al v.levels.length cl]/\(Lit.int .i64 v.code).wf=true/\(Lit.int .i64 v.env).wf=true:=by
 obtain⟨Ai,ni,ci,Ap,np,cp,An,nn,cn,Ac,nc,cc,Al,nl,cl,rfl,wk,ri,rp,rn,rc,rl,wc,we⟩:=fw h;have q1:=(ef ri).1;have q2:=(ef rp).1;have q3:=(ef rn).1;have q4:=(ef rc).1;have q5:=(ef rl).1;rw[au]at q1 q2 q3 q4 q5;subst q1 q2 q3 q4 q5;exact⟨Ai,ci,Ap,cp,An,cn,Ac,cc,Al,cl,rfl,wk,ri,rp,rn,rc,rl,wc,we⟩
section
variable {w0 w w':World} {X:List Nat} {R:List As} {e:Ending}
theorem Mem.newVec {v:Vec} (M:Mem prog w0 X w R) (hn:gM v.toD 38 w e w'):∃(Ai:Option Addr) (ci:Nat) (Ap:Option Addr) (cp:Nat) (An:Option Addr) (cn:Nat) (Ac:Option Addr) (cc:Nat) (Al:Option Addr) (cl:Nat),
 e= .returned (.agg #[v.kind,.slice Ai v.items.length ci,.slice Ap v.parts.length cp,.slice An v.names.length cn,.slice Ac v.cls.length cc,.slice Al v.levels.length cl,v.code,v.env])/\
 Mem prog w0 X w' (.ow (.sl (v.items.map Item.toD)) 35 [.slice Ai v.items.length ci]:: .ow (.sl (v.parts.map Vec.toD)) 36 [.slice Ap v.parts.length cp]:: .ow (.sl (v.names.map .s)) 25 [.slice An v.names.length cn]:: .ow (.sl (v.cls.map .s)) 25 [.slice Ac v.cls.length cc]:: .ow (.sl (v.levels.map .s)) 25 [.slice Al v.levels.length cl]::R):=by
 obtain⟨cs,rfl,M'⟩:=M.newSt hn;obtain⟨Ai,ni,ci,Ap,np,cp,An,nn,cn,Ac,nc,cc,Al,nl,cl,rfl,M2⟩:=M'.openVec;have q1:=(ef (M2.rp 0 rfl)).1;have q2:=(ef (M2.rp 1 rfl)).1;have q3:=(ef (M2.rp 2 rfl)).1;have q4:=(ef (M2.rp 3 rfl)).1;have q5:=(ef (M2.rp 4 rfl)).1;rw[au]at q1 q2 q3 q4 q5;subst q1 q2 q3 q4 q5;exact⟨Ai,ci,Ap,cp,An,cn,Ac,cc,Al,cl,rfl,M2⟩
theorem Mem.newMap {α:Type} {f:α->D} {l:List α} {t:TypeId} (M:Mem prog w0 X w R) (hn:oK (l.map f) t w e w'):∃(A:Option Addr) (c:Nat),e= .returned (.slice A l.length c)/\Mem prog w0 X w' (.ow (.sl (l.map f)) t [.slice A l.length c]::R):=by obtain⟨A,n,c,rfl,M'⟩:=M.newSl hn;have q:=(ef (M'.rp 0 rfl)).1;rw[au]at q;subst q;exact⟨A,c,rfl,M'⟩
theorem wf2:(Lit.int .i64 2).wf=true:=dQ
theorem LZ:(Lit.int .i64 4).wf=true:=dQ
def eH (d:D) (t:TypeId) (y:Value) (w:World) (e:Ending) (w':World):Prop:=∃(cs:List Value) (F:List Nat),e= .returned (.tuple #[av cs,y])/\own prog w' d t F cs/\Fresh w.heap.size F/\Below w.heap.size w w'
theorem Mem.retTwo {d:D} {t:TypeId} {cs:List Value} {y:Value} (h:Mem prog w0 [] w (.ow d t cs::R)):eH d t y w0 (.returned (.tuple #[av cs,y])) w:=by obtain⟨F,h1,h2,h3⟩:=h.fin;exact⟨cs,F,rfl,h1,h2,h3⟩
theorem Mem.newVecTwo {v:Vec} {y:Value} (M:Mem prog w0 X w R) (hn:eH v.toD 38 y w e w'):∃(Ai:Option Addr) (ci:Nat) (Ap:Option Addr) (cp:Nat) (An:Option Addr) (cn:Nat) (Ac:Option Addr) (cc:Nat) (Al:Option Addr) (cl:Nat),
 e= .returned (.tuple #[.agg #[v.kind,.slice Ai v.items.length ci,.slice Ap v.parts.length cp,.slice An v.names.length cn,.slice Ac v.cls.length cc,.slice Al v.levels.length cl,v.code,v.env],y])/\
 Mem prog w0 X w' (.ow (.sl (v.items.map Item.toD)) 35 [.slice Ai v.items.length ci]:: .ow (.sl (v.parts.map Vec.toD)) 36 [.slice Ap v.parts.length cp]:: .ow (.sl (v.names.map .s)) 25 [.slice An v.names.length cn]:: .ow (.sl (v.cls.map .s)) 25 [.slice Ac v.cls.length cc]:: .ow (.sl (v.levels.map .s)) 25 [.slice Al v.levels.length cl]::R):=by
 obtain⟨cs,F,rfl,ho,hf,hb⟩:=hn;obtain⟨Ai,ci,Ap,cp,An,cn,Ac,cc,Al,cl,he,M2⟩:=M.newVec ⟨cs,F,rfl,ho,hf,hb⟩;injection he with he;exact⟨Ai,ci,Ap,cp,An,cn,Ac,cc,Al,cl,by rw[show av cs= .agg cs.toArray from rfl,he],M2⟩
theorem Mem.item {x:Item} (M:Mem prog w0 X w R) (hx:itOK x):Mem prog w0 X w (.ow x.toD 135 [x.num,x.den,sv x.text]::R):=M.scal (uR hx.1 hx.2.1 hx.2.2)
end
theorem YN {a b c d:Value} (h:a=c) (h':b=d):Ending.returned (.tuple #[a,b])= .returned (.tuple #[c,d]):=by rw[h,h']
theorem PD {k:Int} (hi:l[i]?=some k) (hk:¬(0<=k/\k<h.cells.length)):l.all (inR h)=false:=nN hi (by simpa [inR]using hk)
def CtR (h:Hp) (n:Nat) (w:World) (e:Ending) (w':World):Prop:=
 ((refs h).all (inR h)=false/\e= .returned (.tuple #[(),.bool false])/\Below w.heap.size w w')\/
 ((refs h).all (inR h)=true/\∃g c,e= .returned (.tuple #[.slice (some ⟨g,0,none⟩) n c,.bool true])/\Own mR 1 3 w' w.heap.size (some ⟨g,0,none⟩) n c (lM n (refs h))/\Below w.heap.size w w')
theorem Cv {n:Nat} (hi:i<n):∃v:Int,(lM n l)[i]?=some v/\0<=v/\v<=l.length:=⟨_,pM l hi,by omega,by have:=List.count_le_length (a:=(i:Int)) (l:=l);omega⟩
theorem Kc (hx:h.cells[p]?=some x):(h.slots++(h.cells.take p).flatMap (·.parts)).length+x.parts.length<=(refs h).length:=by
 have e:h.cells=h.cells.take p++x::h.cells.drop (p+1):=by obtain⟨hp,rfl⟩:=ay.1 hx;rw[List.getElem_cons_drop hp,cA]
 unfold refs
 conv=>rhs;rw[e]
 simp only[aY,cj,cB];omega
theorem YM (hx:h.cells[p]?=some x) (hn:x.parts.all (inR h)=false):(refs h).all (inR h)=false:=by rw[List.all_eq_false]at hn ⊢;obtain⟨k,hk,hb⟩:=hn;exact⟨k,by unfold refs;exact bD _ (dM.2 ⟨x,aA hx,hk⟩),hb⟩
theorem Lz (h:Hp):(refs h).length<=szD h.toD:=by
 have h1:=nM h;have h2:∀l:List Cel,(l.flatMap (·.parts)).length<=gv (l.map Cel.toD):=λl=>by
  induction l with
  |nil=>simp
  |cons c t ih=>
   have:=wF c;rw[cB,aY,br,gv];simp only[szD,au]at this;omega
 have h3:=h2 h.cells;unfold refs;rw[aY];simp only[szD,au]at h1;omega
theorem Ej (n:Nat):(madeCells #[.int .i64 0] n).toList=(List.replicate n (0:Int)).flatMap mR:=by
 rw[dr]
 induction n with
 |zero=>rfl
 |succ n ih=>rw[dE,dE,cB,<-ih];rfl
theorem Dl (h:Hp) (hz:szD h.toD<=4194304) (K9:h.cells.length<=4194304) (TB:(refs h).length<=4194304) (cs:List Value) (w:World) (hr:rep w w.heap.size h.toD cs):Calls prog 59 #[av cs] w (CtR h h.cells.length w):=by
 obtain⟨A,n,c,Am,nm,cm,As,ns,ca,rfl,rc,rn,rs,wc⟩:=iP hr;have hl:=(ef rc).1;rw[au]at hl;obtain⟨Wl,WG,ca',he,_,hsm,hs,_⟩:=(qy _ _ _ _).1 rs;injection he with he;injection he with f1 f2 f3;subst f1 f2 f3
 have hn:n<=4194304:=dP;have q0:=(Below.refl w.heap.size w).alloc (af _) (.cells #[.slice A n c,.slice Am nm cm,.slice As ns ca,h.copies] 28);obtain⟨i0,DI,rJ,tW,hz2⟩:=cZ CB;have xx:=λW=>iw (P:=prog) 26 3 i0 _ underlying26 DI rJ .i64 .i64 n n (af _) jj dP W;rw[tW,cu]at xx;have kh:Blk ((w.alloc (.cells #[.slice A n c,.slice Am nm cm,.slice As ns ca,h.copies] 28)).alloc (.cells (madeCells #[.int .i64 0] n) 3)) w.heap.size 28 [.slice A n c,.slice Am nm cm,.slice As ns ca,h.copies]:=(Blk.new' (l:=[.slice A n c,.slice Am nm cm,.slice As ns ca,.int .i64 h.copies])).al;have q1:=q0.alloc eA (.cells (madeCells #[.int .i64 0] n) 3);have o0:Own mR 1 3 ((w.alloc (.cells #[.slice A n c,.slice Am nm cm,.slice As ns ca,h.copies] 28)).alloc (.cells (madeCells #[.int .i64 0] n) 3)) (w.heap.size+1) (some ⟨w.heap.size+1,0,none⟩) n n (lM n []):=
  Own.new_ iu _ _ _ (by rw[MB];exact Ej n) (uX n []) eb eA (by simp only[dT])
 have HL:=aa hl;have ahS:=TB;rw[refs,aY]at ahS;have hss:h.slots.length=ns:=hs.len;have HSS:=aa hss;have hns:ns<=4194304:=dP;clear hl hss;go_enter func59,ntmps59;go_wp2_with fail;clear xx;go_loopw [18] (λv wr=>∃m:Nat,m<=ns/\v= .int .i64 m/\Own mR 1 3 wr (w.heap.size+1) (some ⟨w.heap.size+1,0,none⟩) n n (lM n (h.slots.take m))/\(h.slots.take m).all (inR h)=true/\Blk wr w.heap.size 28 [.slice A n c,.slice Am nm cm,.slice As ns ca,h.copies]/\Below w.heap.size w wr) (λv _=>ns - (intOf v).toNat)
 case atStart=>exact⟨0,by omega,rfl,o0,by simp,kh,q1⟩
 case round=>
  clear kh o0 q1;obtain⟨m,hm,rfl,o0,jb,kh,bb⟩:=hrel;obtain⟨g0,g1,g2,g3⟩:=kh.c4;have Kw:=aa jb;clear jb;by_cases hlt:m<ns
  ·obtain⟨b,off,k,rfl,gD,hk,xO⟩:=(hs.below bb).atI hlt;have im:(m:Int)<(ns:Int):=dP;by_cases hin:0<=k/\k<(n:Int)
   ·obtain⟨i,rfl⟩:∃i:Nat,k=i:=⟨k.toNat,by omega⟩;have hi:i<n:=dP;obtain⟨v,hv,hv0,Nk⟩:=Cv (l:=h.slots.take m) hi;have hvb:v<=4194304:=by have:=dO m h.slots;omega
    obtain⟨_,_,v',e1,_,xg,AA⟩:=(o0.reads iu).atI hi;injection e1 with e1;injection e1 with e1 e2;subst e1 e2
    rw[hv]at xg;injection xg with xg;subst xg
    rw[bI]at AA;have zf:=(o0.fil).1.frozen i;have HV:=aa hv;have HK:=aa hk;have i1:(i:Int)<(n:Int):=dP;have i0:(0:Int)<=(i:Int):=dP;have jC:¬(n:Int)<=(i:Int):=dP;clear hin hv hk;go_wp2_with fail;go_roundw
    case rel=>
     have o1:=Own.set_ iu o0 i 0 v (v+1) (.int .i64 (v+1)) HV.out dP rfl;rw[cu,cF]at o1;have hvc:v=((List.count (i:Int) (h.slots.take m):Nat):Int):=by have:=pM (h.slots.take m) hi;rw[HV.out]at this;injection this
     refine⟨m+1,by omega,by go_num,?_,?_,?_,?_⟩
     ·rw[eJ HK.out,<-wJ _ hi,<-hvc];exact o1
     ·exact iY HK.out Kw.out wh
     ·exact kh.pk ig
     ·exact ie bb ig
    case measure=>simp [intOf];omega
   ·have DL:=PD (h:=h) hk (by rw[HL.out];exact hin);have HN:Hid ((refs h).all (inR h)=false):=aa (by rw[refs,List.all_append,DL];rfl);by_cases h0:k<0
    ·clear hin DL hk;go_wp2_with fail;go_ret2;exact .inl ⟨HN.out,rfl,bb⟩
    ·have h1:(n:Int)<=k:=dP;clear hin DL hk;go_wp2_with fail;go_ret2;exact .inl ⟨HN.out,rfl,bb⟩
  ·obtain rfl:m=ns:=dP;have ha:=Kw.out;rw[aC (by rw[HSS.out];omega)]at o0 ha;have HA:=aa ha;clear ha Kw;go_wp2_with fail;go_loopw [41] (λv wr=>∃p:Nat,p<=n/\v= .int .i64 p/\Own mR 1 3 wr (w.heap.size+1) (some ⟨w.heap.size+1,0,none⟩) n n (lM n (h.slots++(h.cells.take p).flatMap (·.parts)))/\(h.slots++(h.cells.take p).flatMap (·.parts)).all (inR h)=true/\Blk wr w.heap.size 28 [.slice A n c,.slice Am nm cm,.slice As m ca,h.copies]/\Below w.heap.size w wr) (λv _=>n - (intOf v).toNat)
   case atStart=>exact⟨0,by omega,rfl,by simpa using o0,by simpa using HA.out,kh,bb⟩
   case round=>
    clear kh o0 bb g0 g1 g2 g3;obtain⟨p,hp,rfl,o0,jb,kh,bb⟩:=hrel;obtain⟨g0,g1,g2,g3⟩:=kh.c4;have Kw:=aa jb;clear jb;by_cases hlp:p<n
    ·obtain⟨b,off,x,Ai,ni,ci,Ap,np,cp,An,nn,cn,Ac,nc,cc,Al,nl,cl,Aq,nq,cq,rfl,gD,hx,fE,e0,e1,e2,e3,e4,e5,e6,e7,e8,e9⟩:=lm (fF rc bb) hlp;obtain⟨_,_,_,_,_,_,_,_,_,_,_,_,_,_,_,_,_,_,lK,_,_,rq⟩:=i8 fE;simp only[bF,bG,dy,cO]at lK;obtain⟨⟨rfl,rfl,rfl⟩,⟨rfl,rfl,rfl⟩,⟨rfl,rfl,rfl⟩,⟨rfl,rfl,rfl⟩,⟨rfl,rfl,rfl⟩,rfl,rfl,rfl⟩:=lK;obtain⟨WQ,Yp,Xi,he,_,hqm,hq,_⟩:=(qy _ _ _ _).1 rq;injection he with he;injection he with f1 f2 f3;subst f1 f2 f3
     have mD:x.parts.length=nq:=hq.len;have xe:(h.slots++(h.cells.take p).flatMap (·.parts)).length+nq<=4194304:=by have:=Kc (h:=h) hx;omega
     have RQ0:Reads mR 1 w w.heap.size Aq nq x.parts:=hq.keep (λp hp=>(bb.cell hp).symm);have RQ:=aa RQ0;clear RQ0;have HX:=aa hx;have Mn:=aa mD;have TN:=aa xe;have hnq:nq<=4194304:=dP;have z0:=bb.size;have yb:b<wr.heap.size:=dP;have yh:=kh.lt;have ip:(p:Int)<(n:Int):=dP;have OG:=kh.al (o:= .cells #[x.count,x.value.kind,.slice Ai ni ci,.slice Ap np cp,.slice An nn cn,.slice Ac nc cc,.slice Al nl cl,x.value.code,x.value.env,.slice Aq nq cq] 43);have zi:=gT (o:= .cells #[x.count,x.value.kind,.slice Ai ni ci,.slice Ap np cp,.slice An nn cn,.slice Ac nc cc,.slice Al nl cl,x.value.code,x.value.env,.slice Aq nq cq] 43) bb z0;have o2:=o0.al (o:= .cells #[x.count,x.value.kind,.slice Ai ni ci,.slice Ap np cp,.slice An nn cn,.slice Ac nc cc,.slice Al nl cl,x.value.code,x.value.env,.slice Aq nq cq] 43);clear hx mD xe rq;go_wp2_with fail;clear e0 e1 e2 e3 e4 e5 e6 e7 e8 e9 g0 g1 g2 g3;obtain⟨wo,hwo⟩:∃wo:World,wo=wr:=⟨_,rfl⟩;subst hwo;go_loopw [48] (λv wr=>∃q:Nat,q<=nq/\v= .int .i64 q/\Own mR 1 3 wr (w.heap.size+1) (some ⟨w.heap.size+1,0,none⟩) n n (lM n ((h.slots++(h.cells.take p).flatMap (·.parts))++x.parts.take q))/\(x.parts.take q).all (inR h)=true/\Blk wr w.heap.size 28 [.slice (some ⟨b,off,none⟩) n c,.slice Am nm cm,.slice As m ca,h.copies]/\Below w.heap.size w wr) (λv _=>nq - (intOf v).toNat)
     case atStart=>exact⟨0,by omega,rfl,by simpa using o2,by simp,OG,zi⟩
     case round=>
      clear OG o2 zi;obtain⟨q,hqq,rfl,o2,jb,OG,zi⟩:=hrel;obtain⟨g0,g1,g2,g3⟩:=OG.c4;have HAQ:=aa jb;clear jb;by_cases hlq:q<nq
      ·obtain⟨b3,o3,k,rfl,lE,hk,xO⟩:=(RQ.out.below zi).atI hlq;have iq:(q:Int)<(nq:Int):=dP;by_cases hin:0<=k/\k<(n:Int)
       ·obtain⟨i,rfl⟩:∃i:Nat,k=i:=⟨k.toNat,by omega⟩;have hi:i<n:=dP;obtain⟨v,hv,hv0,Nk⟩:=Cv (l:=(h.slots++(h.cells.take p).flatMap (·.parts))++x.parts.take q) hi;have hvb:v<=4194304:=by have:=TN.out;have:=dO q x.parts;rw[aY,de,Mn.out]at Nk;omega
        obtain⟨_,_,v',e1,_,xg,AA⟩:=(o2.reads iu).atI hi;injection e1 with e1;injection e1 with e1 e2;subst e1 e2
        rw[hv]at xg;injection xg with xg;subst xg
        rw[bI]at AA;have zf:=(o2.fil).1.frozen i;have HV:=aa hv;have HK:=aa hk;have i1:(i:Int)<(n:Int):=dP;have i0:(0:Int)<=(i:Int):=dP;have jC:¬(n:Int)<=(i:Int):=dP;clear hin hv hk Nk;go_wp2_with fail;go_roundw
        case rel=>
         have o3:=Own.set_ iu o2 i 0 v (v+1) (.int .i64 (v+1)) HV.out dP rfl;rw[cu,cF]at o3;have hvc:v=((List.count (i:Int) ((h.slots++(h.cells.take p).flatMap (·.parts))++x.parts.take q):Nat):Int):=by have:=pM ((h.slots++(h.cells.take p).flatMap (·.parts))++x.parts.take q) hi;rw[HV.out]at this;injection this
         refine⟨q+1,by omega,by go_num,?_,?_,?_,?_⟩
         ·rw[eJ HK.out,<-aS,<-wJ _ hi,<-hvc];exact o3
         ·exact iY HK.out HAQ.out wh
         ·exact OG.pk ig
         ·exact ie zi ig
        case measure=>simp [intOf];omega
       ·have DL:=PD (h:=h) hk (by rw[HL.out];exact hin);have HN:Hid ((refs h).all (inR h)=false):=aa (YM HX.out DL);by_cases h0:k<0
        ·clear hin DL hk;go_wp2_with fail;go_ret2;exact .inl ⟨HN.out,rfl,zi⟩
        ·have h1:(n:Int)<=k:=dP;clear hin DL hk;go_wp2_with fail;go_ret2;exact .inl ⟨HN.out,rfl,zi⟩
      ·obtain rfl:q=nq:=dP;have e1:h.slots++(h.cells.take (p+1)).flatMap (·.parts)=(h.slots++(h.cells.take p).flatMap (·.parts))++x.parts.take q:=Hg;have E1:=aa e1;clear e1;go_wp2_with fail;go_roundw
       case rel=>exact⟨p+1,by omega,by go_num,by rw[E1.out];exact o2,by rw[E1.out,List.all_append,Kw.out,HAQ.out];rfl,OG,zi⟩
       case measure=>simp [intOf];omega
    ·obtain rfl:p=n:=dP;rw[aC ji]at o0;have ha:=Kw.out;rw[aC ji]at ha;have HA2:=aa ha;clear ha;go_wp2_with fail;go_ret2;refine .inr ⟨HA2.out,w.heap.size+1,p,?_,?_,bb⟩
     ·exact YN (by rw[HL.out];rfl) rfl
     ·rw[HL.out];exact o0.mono dP
theorem Ol (l:List Str):lenV (iA l)=l.length:=by simp [lenV,iA]
theorem Qm (l:List Str):jF (iA l)=l.length:=by rw[jU,Ol];rfl
theorem YY {l:List Str} (hn:l.length<=40) (hl:∀x∈l,x.length<=60):isVec (iA l)=true:=by
 have h1:h_ (iA l)=true:=by
  unfold h_ CO IY P6;rw[Ol];have hi:(iA l).items.all (wZ (iA l))=true:=by rw[aV];intro x hx;obtain⟨s,hs,rfl⟩:=List.mem_map.1 hx;have:=hl s hs;simp [wZ,SB,atomK,itemOK,iA,sN,this]
  rw[hi];simp [iA,IZ,mF,vE,hn]
 unfold isVec;rw[okD,h1,Qm];simp [iA];omega
theorem YU {l:List D} (h:∀d∈l,szD d<=B):gv l<=l.length*B:=Gw
theorem V7 {l:List Str} (hn:l.length<=40) (hl:∀x∈l,x.length<=60):bigV (iA l):=by
 unfold bigV;rw[go];simp only[iA,bL,szD,gv,au,bf,List.map_map];have:gv (l.map (Item.toD∘sN))<=(l.map (Item.toD∘sN)).length*1000:=YU (λd hd=>by obtain⟨s,hs,rfl⟩:=List.mem_map.1 hd;have:=hl s hs;simp only[Function.comp,Item.toD,sN,szD,gv];omega)
 rw[au]at this;have h2:=dd 1000 hn;omega
theorem x9 (l:List Str) (A:Option Addr) (n c:Nat) (w:World) (hr:Reads encS 1 w w.heap.size A n l) (hn:(n:Int)<=40) (hl:∀x∈l,x.length<=60):
 Calls prog 129 #[.slice A n c] w (gM (iA l).toD 38 w):=by
 have acZ:=aa hr.len;have q0:=((Below.refl w.heap.size w).alloc (af _) (.cells Bj.toArray 38)).alloc eA (.cells #[.int .i64 3,(),(),(),(),(),.int .i64 0,.int .i64 0] 38);have k0:Blk (w.alloc (.cells Bj.toArray 38)) w.heap.size 38 Bj:=Blk.new';have k1:Blk ((w.alloc (.cells Bj.toArray 38)).alloc (.cells #[.int .i64 3,(),(),(),(),(),.int .i64 0,.int .i64 0] 38)) (w.heap.size+1) 38 [.int .i64 3,(),(),(),(),(),.int .i64 0,.int .i64 0]:=Gv;have HL:=aa hl;clear hl;go_enter func129,ntmps129;go_wp2_with fail;go_loopw [4] (λi wr=>tvL l w n i wr) (λi _=>n - (intOf i).toNat)
 case atStart=>exact⟨0,none,0,[],by omega,rfl,k1,k0.al,by rw[cL];exact o_ underlying35,Fresh.nil,q0⟩
 case round=>
  clear k0 k1 q0;obtain⟨k,Ao,co,FP,hk,rfl,kg,kz,oP,fr,bb⟩:=hrel;have z0:=kg.lt;by_cases hlt:k<n
  ·obtain⟨b,off,x,rfl,hb,hx,hc⟩:=(hr.below bb).at_ hlt;have h0:=hc 0 _ rfl;simp only[cu,cF]at h0;have abJ:=HL.out x (aA hx);have TD:¬(60:Int)<x.length:=dP;have HX:=aa (eJ hx);clear hc hx;have eg:=kg.cell 1;simp only[ah,ag]at eg;have zf:=kg.frozen 1;have lP:=gC oP;go_upto_region 5 with fail
   go_region_law (first
    |(go_simp;go_at_call 168;refine(t9 x _).mono ?_;rintro e w1 ⟨rfl,hb1⟩;obtain⟨hc1,hf1⟩:=fY hb1;have z1:=hb1.size;(try simp only[dW,dT,dX]at hc1 hf1 z1);have yg:w.heap.size+1<w1.heap.size:=by omega)
    |(refine gL (A:=Ao) (n:=k) (c:=co) (b:=w1.heap.size) (m:=1) (xs:=(l.take k).map λs=>(sN s).toD) (F:=FP) (d:=(sN x).toD) (F':=[]) (te:=135) (cs:=[.int .i64 0,.int .i64 1,sv x]) kM ?_ ?_ (.tmp 18) (.tmp 24) ?_ ?_ ?_ ?_ ?_ ?_ ?_ ?_ ?_ ?_ ?_;(kernel_rfl);(rfl);(rfl);(rfl);(focus (repeat'(first|with_reducible assumption|with_reducible refine gX ?_|with_reducible refine fK ?_|with_reducible refine ft ?_ ?_|with_reducible exact fS|with_reducible refine fR ?_ ?_|(with_reducible refine Fresh.notin dY ?_;((try simp only[dW,dT,dX]);omega))|(with_reducible refine Lo.notin dY ?_;((try simp only[dW,dT,dX]);omega))|with_reducible refine em ?_ dY)));(rfl);(focus (repeat'(first|with_reducible assumption|with_reducible exact Blk.new'|with_reducible exact Blk.newd|with_reducible apply Blk.set8|(with_reducible refine Blk.pk ?_ ?_;((try simp only[dW,dT,dX]);omega))|with_reducible refine Blk.dw ?_|with_reducible refine Blk.al ?_|with_reducible refine Blk.next ?_ dY)));(exact Rd abJ);(rfl);(rw[bP];exact fr.1);(unfold maxLen;omega);(omega);intro gg cc w2 Ku TG KD rN;have kg2:=Blk.mod (t:=38) (cs:=[.int .i64 3,.slice Ao k co,.slice none 0 0,.slice none 0 0,.slice none 0 0,.slice none 0 0,.int .i64 0,.int .i64 0]) (g:=w.heap.size+1) (by(repeat'(first|with_reducible assumption|with_reducible exact Blk.new'|with_reducible exact Blk.newd|with_reducible apply Blk.set8|(with_reducible refine Blk.pk ?_ ?_;((try simp only[dW,dT,dX]);omega))|with_reducible refine Blk.dw ?_|with_reducible refine Blk.al ?_|with_reducible refine Blk.next ?_ dY))) rN (fr.notin dP);have eg2:=kg2.cell 1;(simp only[ah,ag]at eg2);have zf2:=kg2.frozen 1))
   all_goals
    go_wp2_with fail;go_roundw
    case rel=>
     have z2:=rN.size;simp only[dW,dT,dX]at z2;have ng:w.heap.size+1 ∉ Ku:=KD.notin (C:=w.heap.size+2) (fr.notin dP) dR dP (by((try simp only[dW,dT,dX]);omega));refine⟨k+1,some ⟨gg,0,none⟩,cc,Ku,by omega,by go_num,kg2.set_ 1 _,?_,?_,?_,?_⟩
     ·exact GY
     ·exact yK
     ·exact Gx
     ·exact Hh
    case measure=>simp [intOf];omega
  ·obtain rfl:k=n:=dP;have hni:(k:Int)<=40:=hn;have oP0:=oP;rw[aC su]at oP;have e9:(iA l).items.map Item.toD=l.map λs=>(sN s).toD:=by simp [iA,Function.comp_def]
   rw[<-e9]at oP;have oV:own prog wr (iA l).toD 38 (FP++([]++([]++([]++([]++[]))))) [.int .i64 3,.slice Ao k co,(),(),(),(),.int .i64 0,.int .i64 0]:=jD (x:=iA l) Wa oP (o_ underlying36) (o_ underlying25) (o_ underlying25) (o_ underlying25) le le;have HV:=aa (YY (l:=l) su HL.out);have ga:=V7 (l:=l) su HL.out;clear e9 oP0;obtain⟨e0,e1,e2,e3,e4,e5,e6,e7⟩:=kg.c8;go_wp2_with fail;refine(ew (iA l) [.int .i64 3,.slice Ao k co,(),(),(),(),.int .i64 0,.int .i64 0] _ (eW _ _ _ _ oV) ga).mono ?_;rw[HV.out];rintro e w1 ⟨rfl,hb1⟩;clear e0 e1 e2 e3 e4 e5 e6 e7;have kg1:=kg.next hb1;have kz1:=kz.next hb1;have oV1:=em oV hb1;have bb1:=gR bb hb1 dP;have z1:=hb1.size;obtain⟨r0,r1,r2,r3,r4,r5,r6,r7⟩:=kz1.c8;have Cz:w.heap.size<w1.heap.size:=dP;obtain⟨e0,e1,e2,e3,e4,e5,e6,e7⟩:=kg1.c8;have zr:=λi=>kz1.frozen i;have Tq:=zr 0;have zr1:=zr 1;have zr2:=zr 2;have zr3:=zr 3;have zr4:=zr 4;have zr5:=zr 5;have zr6:=zr 6;have zr7:=zr 7;clear zr;go_wp2_with fail;refine bM (v:= .agg #[.int .i64 3,.slice Ao k co,(),(),(),(),.int .i64 0,.int .i64 0]) (by simp [results,results129,go_sem,r0,r1,r2,r3,r4,r5,r6,r7,Cz]) rfl ⟨_,FP++([]++([]++([]++([]++[])))),rfl,?_,?_,?_⟩
   ·have fn:w.heap.size ∉ FP++([]++([]++([]++([]++[])))):=by simpa using fr.notin dP
    repeat'(first|with_reducible assumption|with_reducible refine ft ?_ ?_)
   ·simpa using fr.mono dP
   ·exact mg
end Go.Proofs.YtekcpadlmfaihaaGreat
