/- Vectors, cells and heaps in the one assertion for memory: put together, taken apart. -/
import Derived.Test.YtekcpadlmfaihaaGreatZMA
import Derived.Test.YtekcpadlmfaihaaGreatZV
import Derived.Test.YtekcpadlmfaihaaGreatZD
import Derived.Test.YtekcpadlmfaihaaGreatZA
import Derived.Laws.IdiomStrings
import Derived.BigRegion
import Derived.Deep.DeepCutAuto
import Derived.Test.YtekcpadlmfaihaaGreatZG
import Derived.Deep.RegionLaw
namespace Go.Proofs.YtekcpadlmfaihaaGreat
open Go.RowKit Proofs.Tryz
set_option maxHeartbeats 8000000
set_option maxRecDepth 100000
set_option linter.unusedSimpArgs false
set_option linter.unusedVariables false
variable {F:List Nat} {L pq:List UInt8} {cs:List Value} {B i j k m x:Nat} {t:TypeId} {w:World}
theorem rD:ElemTy prog 26 3 1 8:=GR
section
variable {w0 w:World} {X:List Nat} {R:List As} {Ai Ap An Ac Al Aq Ah:Option Addr} {ni ci np cp nn cn nc cc nl cl nq cq nh ch:Nat}
theorem Mem.joinVec {v:Vec} (M:Mem prog w0 X w (.ow (.sl (v.items.map Item.toD)) 35 [.slice Ai ni ci]:: .ow (.sl (v.parts.map Vec.toD)) 36 [.slice Ap np cp]:: .ow (.sl (v.names.map .s)) 25 [.slice An nn cn]:: .ow (.sl (v.cls.map .s)) 25 [.slice Ac nc cc]:: .ow (.sl (v.levels.map .s)) 25 [.slice Al nl cl]::R))
 (wk:(Lit.int .i64 v.kind).wf=true) (wc:(Lit.int .i64 v.code).wf=true) (we:(Lit.int .i64 v.env).wf=true):Mem prog w0 X w (.ow v.toD 38 [v.kind,.slice Ai ni ci,.slice Ap np cp,.slice An nn cn,.slice Ac nc cc,.slice Al nl cl,v.code,v.env]::R):=
 Mem.as (C:=[_,_,_,_,_]) (C':=[_]) M λF hF _=>by obtain⟨F1,_,rfl,o1,F2,_,rfl,o2,F3,_,rfl,o3,F4,_,rfl,o4,F5,_,rfl,o5,rfl⟩:=hF;exact iQ.2 (jD wk o1 o2 o3 o4 o5 wc we)
theorem Mem.openVec {v:Vec} {cs:List Value} (M:Mem prog w0 X w (.ow v.toD 38 cs::R)):∃(Ai:Option Addr) (ni ci:Nat) (Ap:Option Addr) (np cp:Nat) (An:Option Addr) (nn cn:Nat) (Ac:Option Addr) (nc cc:Nat) (Al:Option Addr) (nl cl:Nat),cs=[.int .i64 v.kind,.slice Ai ni ci,.slice Ap np cp,.slice An nn cn,.slice Ac nc cc,.slice Al nl cl,.int .i64 v.code,.int .i64 v.env]/\
 Mem prog w0 X w (.ow (.sl (v.items.map Item.toD)) 35 [.slice Ai ni ci]:: .ow (.sl (v.parts.map Vec.toD)) 36 [.slice Ap np cp]:: .ow (.sl (v.names.map .s)) 25 [.slice An nn cn]:: .ow (.sl (v.cls.map .s)) 25 [.slice Ac nc cc]:: .ow (.sl (v.levels.map .s)) 25 [.slice Al nl cl]::R):=by
 obtain⟨F,h1,h2,h3⟩:=Mem.split [_] M;obtain⟨Ai,ni,ci,Ap,np,cp,An,nn,cn,Ac,nc,cc,Al,nl,cl,F1,F2,F3,F4,F5,rfl,rfl,o1,o2,o3,o4,o5⟩:=jE (iQ.1 h1);exact⟨Ai,ni,ci,Ap,np,cp,An,nn,cn,Ac,nc,cc,Al,nl,cl,rfl,h3 w [_,_,_,_,_] _ ⟨F1,_,rfl,o1,F2,_,rfl,o2,F3,_,rfl,o3,F4,_,rfl,o4,F5,_,rfl,o5,rfl⟩ h2 (λg hg=> .inl hg) Mod.refl⟩
theorem Mem.joinCell {x:Cel} {cs:List Value} (M:Mem prog w0 X w (.ow x.value.toD 38 cs:: .ow (.sl (x.parts.map (.i .i64))) 26 [.slice Aq nq cq]::R)) (wc:(Lit.int .i64 x.count).wf=true):
 Mem prog w0 X w (.ow x.toD 43 (.int .i64 x.count::(cs++[.slice Aq nq cq]))::R):=
 Mem.as (C:=[_,_]) (C':=[_]) M λF hF _=>by obtain⟨F1,_,rfl,o1,F2,_,rfl,o2,rfl⟩:=hF;obtain⟨Ai,ni,ci,Ap,np,cp,An,nn,cn,Ac,nc,cc,Al,nl,cl,G1,G2,G3,G4,G5,rfl,-⟩:=jE o1;exact iQ.2 (uO wc o1 o2)
theorem Mem.joinHeap {h:Hp} (M:Mem prog w0 X w (.ow (.sl (h.cells.map Cel.toD)) 24 [.slice Ah nh ch]:: .ow (.sl (h.names.map .s)) 25 [.slice An nn cn]:: .ow (.sl (h.slots.map (.i .i64))) 26 [.slice Aq nq cq]::R)) (wc:(Lit.int .i64 h.copies).wf=true):
 Mem prog w0 X w (.ow h.toD 28 [.slice Ah nh ch,.slice An nn cn,.slice Aq nq cq,h.copies]::R):=
 Mem.as (C:=[_,_,_]) (C':=[_]) M λF hF _=>by obtain⟨F1,_,rfl,o1,F2,_,rfl,o2,F3,_,rfl,o3,rfl⟩:=hF;exact iQ.2 (Da o1 o2 o3 wc)
end
theorem d_ {v:Vec} (h:rep w B v.toD cs):∃(Ai:Option Addr) (ci:Nat) (Ap:Option Addr) (cp:Nat) (An:Option Addr) (cn:Nat) (Ac:Option Addr) (cc:Nat) (Al:Option Addr) (cl:Nat),
 cs=[.int .i64 v.kind,.slice Ai v.items.length ci,.slice Ap v.parts.length cp,.slice An v.names.length cn,.slice Ac v.cls.length cc,.slice Al v.levels.length cl,.int .i64 v.code,.int .i64 v.env]/\(Lit.int .i64 v.kind).wf=true/\
 rep w B (.sl (v.items.map Item.toD)) [.slice Ai v.items.length ci]/\rep w B (.sl (v.parts.map Vec.toD)) [.slice Ap v.parts.length cp]/\rep w B (.sl (v.names.map .s)) [.slice An v.names.length cn]/\rep w B (.sl (v.cls.map .s)) [.slice Ac v.cls.length cc]/\rep w B (.sl (v.levels.map .s)) [.slice Al v.levels.length cl]/\(Lit.int .i64 v.code).wf=true/\(Lit.int .i64 v.env).wf=true:=by
 obtain⟨Ai,ni,ci,Ap,np,cp,An,nn,cn,Ac,nc,cc,Al,nl,cl,rfl,wk,ri,rp,rn,rc,rl,wc,we⟩:=fw h;have q1:=(ef ri).1;have q2:=(ef rp).1;have q3:=(ef rn).1;have q4:=(ef rc).1;have q5:=(ef rl).1;rw[au]at q1 q2 q3 q4 q5;subst q1 q2 q3 q4 q5;exact⟨Ai,ci,Ap,cp,An,cn,Ac,cc,Al,cl,rfl,wk,ri,rp,rn,rc,rl,wc,we⟩
section
variable {w0 w w':World} {X:List Nat} {R:List As} {e:Ending}
theorem Mem.newVec {v:Vec} (M:Mem prog w0 X w R) (hn:gM v.toD 38 w e w'):∃(Ai:Option Addr) (ci:Nat) (Ap:Option Addr) (cp:Nat) (An:Option Addr) (cn:Nat) (Ac:Option Addr) (cc:Nat) (Al:Option Addr) (cl:Nat),
 e= .returned (.agg #[v.kind,.slice Ai v.items.length ci,.slice Ap v.parts.length cp,.slice An v.names.length cn,.slice Ac v.cls.length cc,.slice Al v.levels.length cl,v.code,v.env])/\
 Mem prog w0 X w' (.ow (.sl (v.items.map Item.toD)) 35 [.slice Ai v.items.length ci]:: .ow (.sl (v.parts.map Vec.toD)) 36 [.slice Ap v.parts.length cp]:: .ow (.sl (v.names.map .s)) 25 [.slice An v.names.length cn]:: .ow (.sl (v.cls.map .s)) 25 [.slice Ac v.cls.length cc]:: .ow (.sl (v.levels.map .s)) 25 [.slice Al v.levels.length cl]::R):=by
 obtain⟨cs,rfl,M'⟩:=M.newSt hn;obtain⟨Ai,ni,ci,Ap,np,cp,An,nn,cn,Ac,nc,cc,Al,nl,cl,rfl,M2⟩:=M'.openVec;have q1:=(ef (M2.rp 0 rfl)).1;have q2:=(ef (M2.rp 1 rfl)).1;have q3:=(ef (M2.rp 2 rfl)).1;have q4:=(ef (M2.rp 3 rfl)).1;have q5:=(ef (M2.rp 4 rfl)).1;rw[au]at q1 q2 q3 q4 q5;subst q1 q2 q3 q4 q5;exact⟨Ai,ci,Ap,cp,An,cn,Ac,cc,Al,cl,rfl,M2⟩
theorem Mem.newMap {α:Type} {f:α->D} {l:List α} {t:TypeId} (M:Mem prog w0 X w R) (hn:oK (l.map f) t w e w'):∃(A:Option Addr) (c:Nat),e= .returned (.slice A l.length c)/\Mem prog w0 X w' (.ow (.sl (l.map f)) t [.slice A l.length c]::R):=by obtain⟨A,n,c,rfl,M'⟩:=M.newSl hn;have q:=(ef (M'.rp 0 rfl)).1;rw[au]at q;subst q;exact⟨A,c,rfl,M'⟩
theorem le:(Lit.int .i64 0).wf=true:=dQ
theorem wf1:(Lit.int .i64 1).wf=true:=dQ
theorem wf2:(Lit.int .i64 2).wf=true:=dQ
theorem Wa:(Lit.int .i64 3).wf=true:=dQ
theorem LZ:(Lit.int .i64 4).wf=true:=dQ
def eH (d:D) (t:TypeId) (y:Value) (w:World) (e:Ending) (w':World):Prop:=∃(cs:List Value) (F:List Nat),e= .returned (.tuple #[av cs,y])/\own prog w' d t F cs/\Fresh w.heap.size F/\Below w.heap.size w w'
theorem Mem.retTwo {d:D} {t:TypeId} {cs:List Value} {y:Value} (h:Mem prog w0 [] w (.ow d t cs::R)):eH d t y w0 (.returned (.tuple #[av cs,y])) w:=by obtain⟨F,h1,h2,h3⟩:=h.fin;exact⟨cs,F,rfl,h1,h2,h3⟩
theorem Mem.newVecTwo {v:Vec} {y:Value} (M:Mem prog w0 X w R) (hn:eH v.toD 38 y w e w'):∃(Ai:Option Addr) (ci:Nat) (Ap:Option Addr) (cp:Nat) (An:Option Addr) (cn:Nat) (Ac:Option Addr) (cc:Nat) (Al:Option Addr) (cl:Nat),
 e= .returned (.tuple #[.agg #[v.kind,.slice Ai v.items.length ci,.slice Ap v.parts.length cp,.slice An v.names.length cn,.slice Ac v.cls.length cc,.slice Al v.levels.length cl,v.code,v.env],y])/\
 Mem prog w0 X w' (.ow (.sl (v.items.map Item.toD)) 35 [.slice Ai v.items.length ci]:: .ow (.sl (v.parts.map Vec.toD)) 36 [.slice Ap v.parts.length cp]:: .ow (.sl (v.names.map .s)) 25 [.slice An v.names.length cn]:: .ow (.sl (v.cls.map .s)) 25 [.slice Ac v.cls.length cc]:: .ow (.sl (v.levels.map .s)) 25 [.slice Al v.levels.length cl]::R):=by
 obtain⟨cs,F,rfl,ho,hf,hb⟩:=hn;obtain⟨Ai,ci,Ap,cp,An,cn,Ac,cc,Al,cl,he,M2⟩:=M.newVec ⟨cs,F,rfl,ho,hf,hb⟩;injection he with he
 exact⟨Ai,ci,Ap,cp,An,cn,Ac,cc,Al,cl,by rw[show av cs= .agg cs.toArray from rfl,he],M2⟩
theorem Mem.item {x:Item} (M:Mem prog w0 X w R) (hx:itOK x):Mem prog w0 X w (.ow x.toD 135 [x.num,x.den,sv x.text]::R):=M.scal (uR hx.1 hx.2.1 hx.2.2)
end
def ja (n:Int):Str:=if n=0 then[48] else if n<0 then 45::xM n.natAbs n.natAbs [] else xM n.natAbs n.natAbs []
theorem Bv (d:Nat) (h:d<10):(List.drop d [48,49,50,51,52,53,54,55,56,57]).take 1=[(48:UInt8)+UInt8.ofNat d]:=by have:∀d:Fin 10,(List.drop d.val [48,49,50,51,52,53,54,55,56,57]).take 1=[(48:UInt8)+UInt8.ofNat d.val]:=dQ;exact this ⟨d,h⟩
theorem pj (n:Int) (w:World) (h0: -9223372036854775808<=n) (h1:n<=9223372036854775807):
 Calls prog 192 #[n] w λe w'=>e= .returned (sv (ja n))/\w=w':=by
 go_enter func192,ntmps192;go_wp2;go_loop [3,4] (λv i=>∃(x:Int) (s:Str),i= .int .i64 x/\v=sv s/\x.natAbs+2*s.length<=n.natAbs+1/\(x≠0->x.natAbs+2*s.length<=n.natAbs)/\xM n.natAbs n.natAbs []=xM x.natAbs x.natAbs s/\ -9223372036854775808<=x/\x<=9223372036854775807) (λ_ i=>(intOf i).natAbs)
 case atStart=>exact⟨n,[],rfl,rfl,by simp,by simp,rfl,h0,h1⟩
 case round=>
  obtain⟨x,s,rfl,rfl,hl,hl',Zx,hx0,qM⟩:=hrel;have TB:s.length<=4611686018427387905:=dP;have HD:=aa Zx;clear Zx;by_cases hx:x=0
  ·subst hx;by_cases hn:n=0
   ·subst hn;go_wp2;go_ret;exact⟨rfl,rfl⟩
   ·have hnb:(n==0)=false:=by simpa using hn
    go_wp2
    ·go_ret;exact⟨mK (by rw[ja,aH hn,aN dP,HD.out];rfl),rfl⟩
    ·go_ret;exact⟨mK (by rw[ja,aH hn,aH dP,HD.out];rfl),rfl⟩
  ·have hnb:(x != 0)=true:=oh;have xf:=hl' hx;clear hl';have e1:(x.tmod 10).natAbs=x.natAbs % 10:=by rw[Int.natAbs_tmod];rfl
   have e2:(x.tdiv 10).natAbs=x.natAbs/10:=by rw[Int.natAbs_tdiv];rfl
   have b1: -9<=x.tmod 10:=dP;have b2:x.tmod 10<=9:=dP;have b3: -9223372036854775808<=x.tdiv 10/\x.tdiv 10<=9223372036854775807:=dP;have b4:x.tdiv 10=0->x.natAbs<10:=dP;have HS:=aa (Du x.natAbs s dP);by_cases hneg:x.tmod 10<0
   ·have R_:(List.drop (-x.tmod 10).toNat [48,49,50,51,52,53,54,55,56,57]).take 1=[(48:UInt8)+UInt8.ofNat (x.natAbs % 10)]:=by rw[Bv _ dP];have:(-x.tmod 10).toNat=x.natAbs % 10:=dP;rw[this]
    have E1:=aa e1;have E2:=aa e2;have B4:=aa b4;have HDI:=aa R_;clear e1 e2 b4 R_;go_wp2;have ht:(-x.tmod 10+1).toNat - (-x.tmod 10).toNat=1:=dP;rw[ht,HDI.out];have e2:=E2.out;have b4:=B4.out;clear ht;go_round
    case rel=>exact⟨x.tdiv 10,(48+UInt8.ofNat (x.natAbs % 10))::s,rfl,rfl,by rw[bU];omega,by rw[bU];omega,by rw[HD.out,HS.out,e2],b3.1,b3.2⟩
    case measure=>simp only[intOf];omega
   ·have R_:(List.drop (x.tmod 10).toNat [48,49,50,51,52,53,54,55,56,57]).take 1=[(48:UInt8)+UInt8.ofNat (x.natAbs % 10)]:=by rw[Bv _ dP];have:(x.tmod 10).toNat=x.natAbs % 10:=dP;rw[this]
    have E1:=aa e1;have E2:=aa e2;have B4:=aa b4;have HDI:=aa R_;clear e1 e2 b4 R_;go_wp2;have ht:(x.tmod 10+1).toNat - (x.tmod 10).toNat=1:=dP;rw[ht,HDI.out];have e2:=E2.out;have b4:=B4.out;clear ht;go_round
    case rel=>exact⟨x.tdiv 10,(48+UInt8.ofNat (x.natAbs % 10))::s,rfl,rfl,by rw[bU];omega,by rw[bU];omega,by rw[HD.out,HS.out,e2],b3.1,b3.2⟩
    case measure=>simp only[intOf];omega
theorem oO (b:UInt8):(zq b).length=1:=rfl
theorem Dv (b:UInt8):∀u∈zq b,u.oneCell'=true:=by simp [zq,Value.oneCell']
theorem aaD:(prog.info? 5).map (λi=>(i.zero,i.size,i.bytes))=some (some (.int .u8 0),1,1):=dU
theorem acf:ElemTy prog 22 5 1 1:=by obtain⟨i0,hi,rJ,tW,hz2⟩:=cZ aaD;exact⟨i0,_,underlying22,hi,rJ,tW,hz2,rfl,by omega⟩
theorem VY {n c g off:Nat} {l:List UInt8} (h:Reads zq 1 w B (some ⟨g,off,none⟩) n l):
 (convert 22 9 (.slice (some ⟨g,off,none⟩) n c)).run prog w= .ok (sv l) w:=by
 have hl:=h.len;subst hl;refine run_convert_bytes_back w _ _ 5 ⟨g,off,none⟩ c l underlying22 underlying5 underlying9 (λj hj=>?_);obtain⟨b,o,x,e,hb,hx,hc⟩:=h.at_ hj;injection e with e;injection e with e1 e2 e3;subst e1 e2
 have:=hc 0 _ rfl;rw[aw hj]at hx;injection hx with hx;subst hx
 by_cases hj0:j=0
 ·subst hj0;simpa [Addr.add]using this
 ·simpa [Addr.add,hj0]using this
theorem Own.frozen {α:Type} {enc:α->List Value} {s:Nat} {e:TypeId} {w:World} {base n c g:Nat} {l:List α} (h:Own enc s e w base (some ⟨g,0,none⟩) n c l) (i:Nat):w.frozen? ⟨g,i,none⟩=false:=h.fil.1.frozen i
theorem Vo (w:World) (b off:Nat) (y:UInt8) (h:w.cell? ⟨b,off,none⟩=some (.int .u8 y.toNat)):∀j u,(zq y)[j]?=some u->w.cell? ⟨b,off+j,none⟩=some u:=by
 intro j u hu
 match j,hu with
 |0,hu=>simp [zq]at hu;subst hu;exact h
 |j+1,hu=>simp [zq]at hu
def zI (L pq:List UInt8) (i j:Nat):Prop:=pq.length=L.length/\∀q,q<L.length->pq[q]?=if q<i\/j<q then L[L.length - 1 - q]? else L[q]?
theorem Ir (L:List UInt8):zI L L 0 (L.length - 1):=⟨rfl,λq hq=>by rw[aH dP]⟩
theorem MV (h:zI L pq i j) (hij:i+j+1=L.length) (hle:j<=i):pq=L.reverse:=by
 apply List.ext_getElem?;intro q;by_cases hq:q<L.length
 ·rw[h.2 q hq,List.getElem?_reverse hq];split
  ·rfl
  ·have:L.length - 1 - q=q:=dP;rw[this]
 ·rw[b_ (by rw[h.1];omega),b_ (by rw[List.length_reverse];omega)]
theorem K8 {x y:UInt8} (h:zI L pq i j) (hij:i+j+1=L.length) (hlt:i<j) (hx:pq[i]?=some x) (hy:pq[j]?=some y):zI L ((pq.set i y).set j x) (i+1) (j - 1):=by
 have hi:=h.2 i dP;have hj:=h.2 j dP;rw[aH dP,hx]at hi;rw[aH dP,hy]at hj;refine⟨by simp [h.1],λq hq=>?_⟩;have hl:=h.1;rw[List.getElem?_set,List.getElem?_set];by_cases e1:j=q
 ·subst e1;have:L.length - 1 - j=i:=dP;rw[aN rfl,aN dS,aN dP,this,hi]
 ·rw[aH e1];by_cases e2:i=q
  ·subst e2;have:L.length - 1 - i=j:=dP;rw[aN rfl,aN dP,aN dP,this,hj]
  ·rw[aH e2,h.2 q hq];by_cases e3:q<i\/j<q
   ·rw[aN e3,aN dP]
   ·rw[aH e3,aH dP]
def fiR (w:World) (n:Int) (v0 v3:Value) (wr:World):Prop:=∃(x:Int) (A:Option Addr) (k c:Nat) (l:List UInt8),v0= .int .i64 x/\v3= .slice A k c/\Own zq 1 5 wr w.heap.size A k c l/\
 xM n.natAbs n.natAbs []=xM x.natAbs x.natAbs l.reverse/\ -9223372036854775808<=x/\x<=9223372036854775807/\Below w.heap.size w wr/\(x≠0->x.natAbs*10 ^ k<=n.natAbs)/\k<=19/\(x=0->0<k)
theorem SV (h:x*10 ^ k<=m) (hx:x≠0) (hm:m<=9223372036854775808):k<=18:=by
 rcases cP k 19 with h1|h1
 ·omega
 ·have:=Nat.pow_le_pow_right (n:=10) dP h1;have h2:10 ^ k<=x*10 ^ k:=Nat.le_mul_of_pos_left _ dP;have h3:(10:Nat) ^ 19=10000000000000000000:=dQ;omega
theorem T7 (d:Nat) (h:d<10):(((48:UInt8)+UInt8.ofNat d).toNat:Int)=48+d:=by have:∀d:Fin 10,(((48:UInt8)+UInt8.ofNat d.val).toNat:Int)=48+(d.val:Int):=dQ;exact this ⟨d,h⟩
theorem NN (h:x*10 ^ k<=m):x/10*10 ^ (k+1)<=m:=by
 have h1:x/10*10<=x:=Nat.div_mul_le_self x 10;have h2:x/10*10 ^ (k+1)=x/10*10*10 ^ k:=by rw[Nat.pow_succ,Nat.mul_assoc,Nat.mul_comm 10]
 rw[h2];exact du (dd _ h1) h
def fiC (w:World) (n:Int) (s3:Value) (wx:World):Prop:=∃(g c m:Nat) (L:List UInt8),s3= .slice (some ⟨g,0,none⟩) m c/\Own zq 1 5 wx w.heap.size (some ⟨g,0,none⟩) m c L/\Below w.heap.size w wx/\L.reverse=ja n/\0<m/\m<=20
theorem oX (n:Int) (w:World) (h0: -9223372036854775808<=n) (h1:n<=9223372036854775807):
 Calls prog 193 #[n] w λe w'=>e= .returned (sv (ja n))/\Below w.heap.size w w':=by
 by_cases WC:n=0
 ·subst WC;go_enter func193,ntmps193;go_wp2;go_ret;exact⟨rfl,Below.refl _ _⟩
 have hnb:(n==0)=false:=by simpa using WC
 go_enter func193,ntmps193;go_wp2;go_loopw [0,3] (λv0 v3 wr=>fiR w n v0 v3 wr) (λv0 _ _=>(intOf v0).natAbs)
 case atStart=>exact⟨n,none,0,0,[],rfl,rfl,Own.nil_,rfl,h0,h1,Below.refl _ _,λ_=>by simp,by omega,λh=>absurd h WC⟩
 case round=>
  obtain⟨x,A,k,c,l,rfl,rfl,ho,Zx,hx0,qM,hb,hpw,hk,XQ⟩:=hrel;have gK:=ho.len;have HD:=aa Zx;clear Zx;by_cases hx:x=0
  ·subst hx;have Sk:=XQ rfl;clear hpw XQ;have hD0:xM n.natAbs n.natAbs []=l.reverse:=HD.out;obtain⟨g,rfl⟩:∃g,A=some ⟨g,0,none⟩:=by
    rcases ho.cases with h|h
    ·omega
    ·exact h
   have H0:=aa hD0;clear HD hD0;go_upto_if 28 with fail
   go_cut [3,4] (λs3 _ wx=>fiC w n s3 wx)
   case first=>
    go_wp2_with (first|(at_builtin;refine v_ zq acf oO Dv rfl _ _ rfl w.heap.size _ k c _ rfl (ho.alloc _) 45 _ 0 1 rfl (Vo _ _ _ _ ?_) ?_ ?_ ?_ ?_;(exact Blk.new'.cell 0);(omega);(unfold maxLen;omega);(have:=hb.size;simp;omega);intro g1 c1 w1 Hz hg1 hb1 adA))
    ·have hneg:n<0:=lg;go_meet;exact⟨g1,c1,k+1,l++[45],rfl,Hz,(hb.alloc hb.size _).trans hb1,by rw[List.reverse_append,<-H0.out,ja,aH WC,aN hneg];rfl,by omega,by omega⟩
    ·have hneg:¬n<0:=dP;go_meet;exact⟨g,c,k,l,rfl,ho,hb,by rw[<-H0.out,ja,aH WC,aH dP],Sk,by omega⟩
   case rest=>
    obtain⟨g2,c2,m,L,rfl,ho2,jS,hL,Pt,DJ⟩:=hcut;obtain⟨W,hW⟩:∃W:World,W=wc:=⟨_,rfl⟩;subst hW;have hm:=ho2.len;go_wp2_with fail;go_loopw [6,7] (λv6 v7 wr=>∃(i j:Nat) (pq:List UInt8),v6= .int .i64 i/\v7= .int .i64 j/\i+j+1=m/\i<=j+1/\Own zq 1 5 wr w.heap.size (some ⟨g2,0,none⟩) m c2 pq/\zI L pq i j/\Below w.heap.size w wr) (λv6 _ _=>m - (intOf v6).toNat)
    case atStart=>
     have TC:=Ir L;rw[hm]at TC;exact⟨0,m - 1,L,rfl,by go_num,by omega,by omega,ho2,TC,jS⟩
    case round=>
     clear ho2 jS ho hb;obtain⟨i,j,pq,rfl,rfl,hij,hle,ho,hhw,hb⟩:=hrel;by_cases hlt:i<j
     ·have K9:=ho.len;obtain⟨x,hx⟩:∃x,pq[i]?=some x:=⟨pq[i]' dP,by simp⟩;obtain⟨y,hy⟩:∃y,pq[j]?=some y:=⟨pq[j]' dP,by simp⟩;obtain⟨b1,o1,x1,ee,hb1,qM,hc1⟩:=(ho.reads oO).at_ (k:=i) dP;injection ee with ee;injection ee with e1 e2 e3;subst e1 e2
      obtain⟨b1,o1,y1,ee,hb1,WF,Jy⟩:=(ho.reads oO).at_ (k:=j) dP;injection ee with ee;injection ee with e1 e2 e3;subst e1 e2
      have k1:=hc1 0 _ rfl;have k2:=Jy 0 _ rfl;simp only[bI,cu,cF]at k1 k2;rw[hx]at qM;injection qM with qM;subst qM
      rw[hy]at WF;injection WF with WF;subst WF
      have him:i<m:=dP;have hjm:j<m:=dP;have hf1:wr.frozen? ⟨g2,i,none⟩=false:=ho.frozen i;have hf2:wr.frozen? ⟨g2,j,none⟩=false:=ho.frozen j;have jC:¬i=j:=dP;have Sl:¬j=i:=dP;clear hc1 Jy;go_upto_region 16 with fail
      go_region;have s1:=ho.set_ oO i 0 x y (.int .u8 y.toNat) hx dP rfl;have s2:=s1.set_ oO j 0 y x (.int .u8 x.toNat) (by rw[List.getElem?_set_ne jC];exact hy) dP rfl;simp only[cu,cF]at s2;have t2:=jR (ie (p:=⟨g2,j,none⟩) (u:= .int .u8 x.toNat) (ie (p:=⟨g2,i,none⟩) (u:= .int .u8 y.toNat) hb ho.lt.1) ho.lt.1);have TC:=K8 hhw dP hlt hx hy;have S2:=aa s2;have HST:=aa TC;clear s1 s2 TC hx hy hhw;go_wp2;refine⟨⟨i+1,j - 1,(pq.set i y).set j x,by go_num,?_,by omega,by omega,S2.out,HST.out,t2⟩,?_⟩
      ·have:((j - 1:Nat):Int)=(j:Int) - 1:=dP;rw[this]
      ·simp only[intOf];omega
     ·have hL2:=MV hhw dP dP;obtain⟨b1,o1,x1,ee,hb1,qM,hc1⟩:=(ho.reads oO).at_ (k:=i) dP;have AA:=λ(c:Nat)=>VY (c:=c) (ho.reads oO)
      have Ts:=aa hL2;clear hL2 hc1 qM ee;go_wp2;go_ret;exact⟨mK (by rw[Ts.out,hL]),hb⟩
  ·have hnb':(x != 0)=true:=oh;have hp1:=hpw hx;have hk18:=SV hp1 dP dP;clear hpw XQ;have e1:(x.tmod 10).natAbs=x.natAbs % 10:=by rw[Int.natAbs_tmod];rfl
   have e2:(x.tdiv 10).natAbs=x.natAbs/10:=by rw[Int.natAbs_tdiv];rfl
   have b1: -9<=x.tmod 10:=dP;have b2:x.tmod 10<=9:=dP;have b3: -9223372036854775808<=x.tdiv 10/\x.tdiv 10<=9223372036854775807:=dP;have HS:=aa (Du x.natAbs l.reverse dP);have HP:=aa hp1;have E1:=aa e1;have E2:=aa e2;clear hp1 e1 e2;by_cases hneg:x.tmod 10<0
   ·have R_:(48:Int)+ -x.tmod 10=(((48:UInt8)+UInt8.ofNat (x.natAbs % 10)).toNat:Int):=by rw[T7 _ dP];have:=E1.out;omega
    have HDI:=aa R_;clear R_;go_wp2_with (first|(at_builtin;refine v_ zq acf oO Dv rfl _ _ rfl w.heap.size _ k c _ rfl (ho.alloc _) (48+UInt8.ofNat (x.natAbs % 10)) _ 0 1 rfl (Vo _ _ _ _ ?_) ?_ ?_ ?_ ?_;(rw[<-HDI.out];exact Blk.new'.cell 0);(omega);(unfold maxLen;omega);(have:=hb.size;simp;omega);intro g1 c1 w1 Hz hg1 hb1 adA));go_roundw
    case rel=>exact⟨x.tdiv 10,some ⟨g1,0,none⟩,k+1,c1,l++[48+UInt8.ofNat (x.natAbs % 10)],rfl,rfl,Hz,by rw[HD.out,HS.out,List.reverse_append,E2.out];rfl,b3.1,b3.2,(hb.alloc hb.size _).trans hb1,λ_=>by rw[E2.out];exact NN HP.out,by omega,λ_=>by omega⟩
    case measure=>simp only[intOf];have:=E2.out;omega
   ·have R_:(48:Int)+x.tmod 10=(((48:UInt8)+UInt8.ofNat (x.natAbs % 10)).toNat:Int):=by rw[T7 _ dP];have:=E1.out;omega
    have HDI:=aa R_;clear R_;go_wp2_with (first|(at_builtin;refine v_ zq acf oO Dv rfl _ _ rfl w.heap.size _ k c _ rfl (ho.alloc _) (48+UInt8.ofNat (x.natAbs % 10)) _ 0 1 rfl (Vo _ _ _ _ ?_) ?_ ?_ ?_ ?_;(rw[<-HDI.out];exact Blk.new'.cell 0);(omega);(unfold maxLen;omega);(have:=hb.size;simp;omega);intro g1 c1 w1 Hz hg1 hb1 adA));go_roundw
    case rel=>exact⟨x.tdiv 10,some ⟨g1,0,none⟩,k+1,c1,l++[48+UInt8.ofNat (x.natAbs % 10)],rfl,rfl,Hz,by rw[HD.out,HS.out,List.reverse_append,E2.out];rfl,b3.1,b3.2,(hb.alloc hb.size _).trans hb1,λ_=>by rw[E2.out];exact NN HP.out,by omega,λ_=>by omega⟩
    case measure=>simp only[intOf];have:=E2.out;omega
def hx (n:Nat):UInt8:=([48,49,50,51,52,53,54,55,56,57,97,98,99,100,101,102]:List UInt8)[n]?.getD 48
theorem wP (n:Int):(ja n).length<=n.natAbs+1:=by
 have dl:∀(f k:Nat) (s:Str),(xM f k s).length<=f+s.length:=by
  intro f
  induction f with
  |zero=>intro k s;simp [xM]
  |succ f ih=>
   intro k s;rw[xM];split
   ·omega
   ·have:=ih (k/10) ((48+UInt8.ofNat (k % 10))::s);rw[bU]at this;omega
 unfold ja;have:=dl n.natAbs n.natAbs [];simp only[bf]at this;split
 ·simp
 ·split
  ·rw[bU];omega
  ·omega
def qq (x:Item):Str:=if eI x then[78,65] else if nZ x then (if x.den=1 then ja x.num else ja x.num++([47]++ja x.den)) else[]
theorem vw {x:Item} (h:nZ x=true):(1<=x.den/\x.den<=999999999)/\ -999999999<=x.num/\x.num<=999999999:=by simp [nZ]at h;omega
theorem JH (a d:Int) (t:Str):(a=0/\d=0/\t=[])\/(¬a=0/\eI ⟨a,d,t⟩=false)\/(a=0/\¬d=0/\eI ⟨a,d,t⟩=false)\/(a=0/\d=0/\¬t=[]/\eI ⟨a,d,t⟩=false):=by
 by_cases h1:a=0
 ·by_cases h2:d=0
  ·by_cases h3:t=[]
   ·exact .inl ⟨h1,h2,h3⟩
   ·exact .inr (.inr (.inr ⟨h1,h2,h3,by simp [eI,h3]⟩))
  ·exact .inr (.inr (.inl ⟨h1,h2,by simp [eI,h2]⟩))
 ·exact .inr (.inl ⟨h1,by simp [eI,h1]⟩)
theorem vX (x:Item) (w:World):Calls prog 187 #[Me x] w λe w'=>e= .returned (sv (qq x))/\Below w.heap.size w w':=by
 obtain⟨a,d,t⟩:=x;have q0:=(Below.refl w.heap.size w).alloc (af _) (.cells #[a,d,sv t] 135);have HF:=aa (show qq ⟨a,d,t⟩=if eI ⟨a,d,t⟩ then[78,65] else if nZ ⟨a,d,t⟩ then (if d=1 then ja a else ja a++([47]++ja d)) else[] from rfl);have HN:=aa (λh=>vw (x:=⟨a,d,t⟩) h);rcases JH a d t with ⟨rfl,rfl,rfl⟩|⟨ha,hm⟩|⟨rfl,ha,hm⟩|⟨rfl,rfl,ha,hm⟩
 ·go_enter func187,ntmps187;go_wp2_with fail;go_ret;exact⟨mK (by rw[HF.out];rfl),q0⟩
 all_goals
  have HM:=aa hm;clear hm;go_enter func187,ntmps187;go_wp2_with fail;refine(tj ⟨_,_,_⟩ _).mono ?_;rintro e w1 ⟨rfl,hb1⟩;obtain⟨hc1,hf1⟩:=fY hb1;have tW:=hb1.size;simp only[dT]at hc1 hf1 tW;generalize hN:nZ _=b at HF ⊢;have HM:=HM.out;cases b with
  |false=>
   have HN0:=aa hN;clear hN;go_wp2_with fail;go_ret;exact⟨mK (by rw[HF.out,HM];rfl),ij q0 hb1⟩
  |true=>
   obtain⟨⟨d0,d1⟩,n0,n1⟩:=HN.out hN
   (try simp only at d0 d1 n0 n1)
   first
    |(exfalso;omega)
    |skip
   all_goals
    have HN0:=aa hN;clear hN;have HM0:=aa HM;clear HM;have l1:(ja d).length<=1000000000:=by have:=wP d;omega
    first|(have l2:(ja a).length<=1000000000:=by have:=wP a;omega)|(have l2:(ja 0).length<=1000000000:=by have:=wP 0;omega)
    cases hd:(d==1) with
    |true=>
     go_wp2_with (go_at_call 192;((with_reducible refine(pj _ _ dP dP).mono ?_);rintro e w2 ⟨rfl,rfl⟩));go_ret;exact⟨mK B8,ij q0 hb1⟩
    |false=>
     go_upto_region 7 with fail
     first
      |((have i1:¬9223372036854775807<(ja a).length+1:=dP);(have i2:¬9223372036854775807<(ja a).length+((ja d).length+1):=dP);(have i3:¬9223372036854775807<(ja a).length+1+(ja d).length:=dP);(have i4:¬9223372036854775807<(ja a).length+(1+(ja d).length):=dP))
      |((have i1:¬9223372036854775807<(ja 0).length+1:=dP);(have i2:¬9223372036854775807<(ja 0).length+((ja d).length+1):=dP);(have i3:¬9223372036854775807<(ja 0).length+1+(ja d).length:=dP);(have i4:¬9223372036854775807<(ja 0).length+(1+(ja d).length):=dP))
     first
      |(go_region_held3 (λW=>W.cell? ⟨w.heap.size,0,none⟩=some (.int .i64 a)/\W.cell? ⟨w.heap.size,1,none⟩=some (.int .i64 d)) (first|go_keep|(refine⟨?_,?_⟩<;>(first|((try rw[hc2 _ _ dP]);(try rw[hc1 _ _ dP]);go_keep)))) (first|(go_at_call 192;refine(pj _ _ ?_ ?_).mono ?_;(omega);(omega);rintro e w2 ⟨rfl,rfl⟩)))
      |(go_region_held3 (λW=>W.cell? ⟨w.heap.size,0,none⟩=some (.int .i64 0)/\W.cell? ⟨w.heap.size,1,none⟩=some (.int .i64 d)) (first|go_keep|(refine⟨?_,?_⟩<;>(first|((try rw[hc2 _ _ dP]);(try rw[hc1 _ _ dP]);go_keep)))) (first|(go_at_call 192;refine(pj _ _ ?_ ?_).mono ?_;(omega);(omega);rintro e w2 ⟨rfl,rfl⟩)))
     all_goals
      go_wp2_with fail;go_ret;refine⟨mK BR,?_⟩;have q1:=ij q0 hb1
      (repeat'(first|with_reducible assumption|with_reducible exact Below.refl _ _|with_reducible refine jR ?_|with_reducible refine gT ?_ ?_|with_reducible refine ie ?_ ?_|with_reducible refine gR ?_ dY ?_|((try simp only[dW,dT,dX]);omega)))
theorem vr (x:Item) (w:World):Calls prog 191 #[Me x] w λe w'=>e= .returned (sv (qq x))/\Below w.heap.size w w':=by
 obtain⟨a,d,t⟩:=x;have q0:=(Below.refl w.heap.size w).alloc (af _) (.cells #[a,d,sv t] 135);have HF:=aa (show qq ⟨a,d,t⟩=if eI ⟨a,d,t⟩ then[78,65] else if nZ ⟨a,d,t⟩ then (if d=1 then ja a else ja a++([47]++ja d)) else[] from rfl);have HN:=aa (λh=>vw (x:=⟨a,d,t⟩) h);rcases JH a d t with ⟨rfl,rfl,rfl⟩|⟨ha,hm⟩|⟨rfl,ha,hm⟩|⟨rfl,rfl,ha,hm⟩
 ·go_enter func191,ntmps191;go_wp2_with fail;go_ret;exact⟨mK (by rw[HF.out];rfl),q0⟩
 all_goals
  have HM:=aa hm;clear hm;go_enter func191,ntmps191;go_wp2_with fail;refine(pA ⟨_,_,_⟩ _).mono ?_;rintro e w1 ⟨rfl,hb1⟩;obtain⟨hc1,hf1⟩:=fY hb1;have tW:=hb1.size;simp only[dT]at hc1 hf1 tW;generalize hN:nZ _=b at HF ⊢;have HM:=HM.out;cases b with
  |false=>
   have HN0:=aa hN;clear hN;go_wp2_with fail;go_ret;exact⟨mK (by rw[HF.out,HM];rfl),ij q0 hb1⟩
  |true=>
   obtain⟨⟨d0,d1⟩,n0,n1⟩:=HN.out hN
   (try simp only at d0 d1 n0 n1)
   first
    |(exfalso;omega)
    |skip
   all_goals
    have HN0:=aa hN;clear hN;have HM0:=aa HM;clear HM;have l1:(ja d).length<=1000000000:=by have:=wP d;omega
    first|(have l2:(ja a).length<=1000000000:=by have:=wP a;omega)|(have l2:(ja 0).length<=1000000000:=by have:=wP 0;omega)
    cases hd:(d==1) with
    |true=>
     go_wp2_with (go_at_call 193;((with_reducible refine(oX _ _ dP dP).mono ?_);rintro e w2 ⟨rfl,jS⟩));go_ret;exact⟨mK B8,ij (ij q0 hb1) jS⟩
    |false=>
     go_upto_region 7 with fail
     first
      |((have i1:¬9223372036854775807<(ja a).length+1:=dP);(have i2:¬9223372036854775807<(ja a).length+((ja d).length+1):=dP);(have i3:¬9223372036854775807<(ja a).length+1+(ja d).length:=dP);(have i4:¬9223372036854775807<(ja a).length+(1+(ja d).length):=dP))
      |((have i1:¬9223372036854775807<(ja 0).length+1:=dP);(have i2:¬9223372036854775807<(ja 0).length+((ja d).length+1):=dP);(have i3:¬9223372036854775807<(ja 0).length+1+(ja d).length:=dP);(have i4:¬9223372036854775807<(ja 0).length+(1+(ja d).length):=dP))
     first
      |(go_region_held3 (λW=>W.cell? ⟨w.heap.size,0,none⟩=some (.int .i64 a)/\W.cell? ⟨w.heap.size,1,none⟩=some (.int .i64 d)) (first|go_keep|(refine⟨?_,?_⟩<;>(first|((try rw[hc2 _ _ dP]);(try rw[hc1 _ _ dP]);go_keep)))) (first|(go_at_call 193;refine(oX _ _ ?_ ?_).mono ?_;(omega);(omega);rintro e w2 ⟨rfl,jS⟩;obtain⟨hc2,hf2⟩:=fY jS;have hz2:=jS.size;(try simp only[dW]at hc2 hf2 hz2))))
      |(go_region_held3 (λW=>W.cell? ⟨w.heap.size,0,none⟩=some (.int .i64 0)/\W.cell? ⟨w.heap.size,1,none⟩=some (.int .i64 d)) (first|go_keep|(refine⟨?_,?_⟩<;>(first|((try rw[hc2 _ _ dP]);(try rw[hc1 _ _ dP]);go_keep)))) (first|(go_at_call 193;refine(oX _ _ ?_ ?_).mono ?_;(omega);(omega);rintro e w2 ⟨rfl,jS⟩;obtain⟨hc2,hf2⟩:=fY jS;have hz2:=jS.size;(try simp only[dW]at hc2 hf2 hz2))))
     all_goals
      go_wp2_with fail;go_ret;refine⟨mK BR,?_⟩;have q1:=ij q0 hb1
      (repeat'(first|with_reducible assumption|with_reducible exact Below.refl _ _|with_reducible refine jR ?_|with_reducible refine gT ?_ ?_|with_reducible refine ie ?_ ?_|with_reducible refine gR ?_ dY ?_|((try simp only[dW,dT,dX]);omega)))
def ZT (l:List Str) (k:Nat):Str:=(l[k]?).getD []
def sN (s:Str):Item:=⟨0,1,s⟩
def iA (l:List Str):Vec:=⟨3,l.map sN,[],[],[],[],0,0⟩
theorem pm (s:Str) (w:World):Calls prog 158 #[sv s] w λe w'=>e= .returned (.agg #[.int .i64 0,.int .i64 1,sv s])/\Below w.heap.size w w':=by go_enter func158,ntmps158;go_wp2_with fail;exact bM (v:= .agg #[.int .i64 0,.int .i64 1,sv s]) (by simp [results,results158,go_sem]) rfl ⟨rfl,(Below.refl _ _).alloc (af _) _⟩
theorem t9 (s:Str) (w:World):Calls prog 168 #[sv s] w λe w'=>e= .returned (.agg #[.int .i64 0,.int .i64 1,sv s])/\Below w.heap.size w w':=by go_enter func168,ntmps168;go_wp2_with fail;exact bM (v:= .agg #[.int .i64 0,.int .i64 1,sv s]) (by simp [results,results168,go_sem]) rfl ⟨rfl,(Below.refl _ _).alloc (af _) _⟩
abbrev Bj:List Value:=[.int .i64 0,.slice none 0 0,.slice none 0 0,.slice none 0 0,.slice none 0 0,.slice none 0 0,.int .i64 0,.int .i64 0]
def tvL (l:List Str) (w:World) (n:Nat) (i:Value) (wr:World):Prop:=∃(k:Nat) (Ao:Option Addr) (co:Nat) (FP:List Nat),k<=n/\i= .int .i64 k/\
 Blk wr (w.heap.size+1) 38 [.int .i64 3,.slice Ao k co,(),(),(),(),.int .i64 0,.int .i64 0]/\Blk wr w.heap.size 38 Bj/\
 own prog wr (.sl ((l.take k).map λs=>(sN s).toD)) 35 FP [.slice Ao k co]/\Fresh (w.heap.size+2) FP/\Below w.heap.size w wr
theorem Rd {x:Str} (h:x.length<=60):own prog w (sN x).toD 135 [] [.int .i64 0,.int .i64 1,sv x]:=Ey (sN x) ⟨le,wf1,by unfold maxLen sN;simp only;omega⟩ rfl
theorem xS (l:List Str) (A:Option Addr) (n c:Nat) (w:World) (hr:Reads encS 1 w w.heap.size A n l) (hn:(n:Int)<=40) (hl:∀x∈l,x.length<=60):
 Calls prog 113 #[.slice A n c] w (gM (iA l).toD 38 w):=by
 have acZ:=aa hr.len;have q0:=((Below.refl w.heap.size w).alloc (af _) (.cells Bj.toArray 38)).alloc eA (.cells #[.int .i64 3,(),(),(),(),(),.int .i64 0,.int .i64 0] 38);have k0:Blk (w.alloc (.cells Bj.toArray 38)) w.heap.size 38 Bj:=Blk.new';have k1:Blk ((w.alloc (.cells Bj.toArray 38)).alloc (.cells #[.int .i64 3,(),(),(),(),(),.int .i64 0,.int .i64 0] 38)) (w.heap.size+1) 38 [.int .i64 3,(),(),(),(),(),.int .i64 0,.int .i64 0]:=Gv;have HL:=aa hl;clear hl;go_enter func113,ntmps113;go_wp2_with fail;go_loopw [13] (λi wr=>tvL l w n i wr) (λi _=>n - (intOf i).toNat)
 case atStart=>exact⟨0,none,0,[],by omega,rfl,k1,k0.al,by rw[cL];exact o_ underlying35,Fresh.nil,q0⟩
 case round=>
  clear k0 k1 q0;obtain⟨k,Ao,co,FP,hk,rfl,kg,kz,oP,fr,bb⟩:=hrel;have z0:=kg.lt;by_cases hlt:k<n
  ·obtain⟨b,off,x,rfl,hb,hx,hc⟩:=(hr.below bb).at_ hlt;have h0:=hc 0 _ rfl;simp only[cu,cF]at h0;have abJ:=HL.out x (aA hx);have TD:¬(60:Int)<x.length:=dP;have HX:=aa (eJ hx);clear hc hx;have eg:=kg.cell 1;simp only[ah,ag]at eg;have zf:=kg.frozen 1;have lP:=gC oP;go_upto_region 9 with fail
   go_region_law (first
    |(go_simp;go_at_call 158;refine(pm x _).mono ?_;rintro e w1 ⟨rfl,hb1⟩;obtain⟨hc1,hf1⟩:=fY hb1;have z1:=hb1.size;(try simp only[dW,dT,dX]at hc1 hf1 z1);have yg:w.heap.size+1<w1.heap.size:=by omega)
    |(refine gL (A:=Ao) (n:=k) (c:=co) (b:=w1.heap.size) (m:=1) (xs:=(l.take k).map λs=>(sN s).toD) (F:=FP) (d:=(sN x).toD) (F':=[]) (te:=135) (cs:=[.int .i64 0,.int .i64 1,sv x]) kM ?_ ?_ (.tmp 22) (.tmp 25) ?_ ?_ ?_ ?_ ?_ ?_ ?_ ?_ ?_ ?_ ?_;(kernel_rfl);(rfl);(rfl);(rfl);(focus (repeat'(first|with_reducible assumption|with_reducible refine gX ?_|with_reducible refine fK ?_|with_reducible refine ft ?_ ?_|with_reducible exact fS|with_reducible refine fR ?_ ?_|(with_reducible refine Fresh.notin dY ?_;((try simp only[dW,dT,dX]);omega))|(with_reducible refine Lo.notin dY ?_;((try simp only[dW,dT,dX]);omega))|with_reducible refine em ?_ dY)));(rfl);(focus (repeat'(first|with_reducible assumption|with_reducible exact Blk.new'|with_reducible exact Blk.newd|with_reducible apply Blk.set8|(with_reducible refine Blk.pk ?_ ?_;((try simp only[dW,dT,dX]);omega))|with_reducible refine Blk.dw ?_|with_reducible refine Blk.al ?_|with_reducible refine Blk.next ?_ dY)));(exact Rd abJ);(rfl);(rw[bP];exact fr.1);(unfold maxLen;omega);(omega);intro gg cc w2 Ku TG KD rN;have kg2:=Blk.mod (t:=38) (cs:=[.int .i64 3,.slice Ao k co,.slice none 0 0,.slice none 0 0,.slice none 0 0,.slice none 0 0,.int .i64 0,.int .i64 0]) (g:=w.heap.size+1) (by(repeat'(first|with_reducible assumption|with_reducible exact Blk.new'|with_reducible exact Blk.newd|with_reducible apply Blk.set8|(with_reducible refine Blk.pk ?_ ?_;((try simp only[dW,dT,dX]);omega))|with_reducible refine Blk.dw ?_|with_reducible refine Blk.al ?_|with_reducible refine Blk.next ?_ dY))) rN (fr.notin dP);have eg2:=kg2.cell 1;(simp only[ah,ag]at eg2);have zf2:=kg2.frozen 1))
   all_goals
    go_wp2_with fail;go_roundw
    case rel=>
     have z2:=rN.size;simp only[dW,dT,dX]at z2;have ng:w.heap.size+1 ∉ Ku:=KD.notin (C:=w.heap.size+2) (fr.notin dP) dR dP (by((try simp only[dW,dT,dX]);omega));refine⟨k+1,some ⟨gg,0,none⟩,cc,Ku,by omega,by go_num,kg2.set_ 1 _,?_,?_,?_,?_⟩
     ·exact GY
     ·exact yK
     ·exact Gx
     ·exact Hh
    case measure=>simp [intOf];omega
  ·obtain rfl:k=n:=dP;obtain⟨r0,r1,r2,r3,r4,r5,r6,r7⟩:=kz.c8;have Cz:w.heap.size<wr.heap.size:=dP;obtain⟨e0,e1,e2,e3,e4,e5,e6,e7⟩:=kg.c8;have zr:=λi=>kz.frozen i
   have Tq:=zr 0;have zr1:=zr 1;have zr2:=zr 2;have zr3:=zr 3;have zr4:=zr 4;have zr5:=zr 5;have zr6:=zr 6;have zr7:=zr 7;clear zr;go_wp2_with fail;rw[aC su]at oP;refine bM (v:= .agg #[.int .i64 3,.slice Ao k co,(),(),(),(),.int .i64 0,.int .i64 0]) (by simp [results,results113,go_sem,r0,r1,r2,r3,r4,r5,r6,r7,Cz]) rfl ⟨_,FP++([]++([]++([]++([]++[])))),rfl,?_,?_,?_⟩
   ·refine jD (x:=iA l) Wa ?_ (o_ underlying36) (o_ underlying25) (o_ underlying25) (o_ underlying25) le le;have e9:(iA l).items.map Item.toD=l.map λs=>(sN s).toD:=by simp [iA,Function.comp_def]
    rw[e9];have lo:=gC oP;have fn:w.heap.size ∉ FP:=fr.notin dP;repeat'(first|with_reducible assumption|with_reducible refine ft ?_ ?_)
   ·simpa using fr.mono dP
   ·exact mg
def CD (b2 b5 b8 b9 Jc Ht Jd Hu Je Hv Dk:Bool):Array Bool:=#[true,true,b2,true,true,b5,true,true,b8,b9,true,true,Jc,Ht,true,true,Jd,Hu,true,true,Je,true,true,true,true,Hv,Dk]
def lcI (ps:List Vec) (v:Vec) (Ai:Option Addr) (ni ci:Nat) (Ap:Option Addr) (np cp:Nat) (An:Option Addr) (nn cn:Nat) (Ac:Option Addr) (nc cc:Nat) (Al:Option Addr) (nl cl:Nat) (w W0:World) (l:Array Bool) (a:Act) (wx:World):Prop:=∃(b2 b5 b8 b9 Jc Ht Jd Hu Je Hv Dk:Bool) (u5 u8 LP Tl OH Tm OI Tn OJ Qn:Value) (F1 F2 F3 F4 F5:List Nat),
 (l=CD b2 b5 b8 b9 Jc Ht Jd Hu Je Hv Dk/\a=⟨#[av (vc v Ai ni ci Ap np cp An nn cn Ac nc cc Al nl cl),.pointer (some ⟨w.heap.size,0,none⟩),.pointer (some ⟨w.heap.size+1,0,none⟩),.pointer (some ⟨w.heap.size,0,none⟩),.int .i64 v.kind,u5,.pointer (some ⟨w.heap.size,1,none⟩),.slice Ai ni ci,u8,.pointer (some ⟨w.heap.size,2,none⟩),.slice Ap np cp,LP,Tl,.pointer (some ⟨w.heap.size,3,none⟩),.slice An nn cn,OH,Tm,.pointer (some ⟨w.heap.size,4,none⟩),.slice Ac nc cc,OI,Tn,.pointer (some ⟨w.heap.size,5,none⟩),.slice Al nl cl,OJ,.pointer (some ⟨w.heap.size,6,none⟩),.int .i64 v.code,.pointer (some ⟨w.heap.size,7,none⟩),.int .i64 v.env,Qn],[]⟩)/\(Blk wx w.heap.size 38 [v.kind,.slice Ai ni ci,.slice Ap np cp,.slice An nn cn,.slice Ac nc cc,.slice Al nl cl,v.code,v.env]/\Blk wx (w.heap.size+1) 38 (if Dk then[.int .i64 v.kind,u8,LP,OH,OI,OJ,.int .i64 v.code,.int .i64 v.env] else Bj)/\Below w.heap.size w wx/\w.heap.size+2<=wx.heap.size)/\
 (pr prog wx (v.items.map Item.toD) 35 b2 b5 u5 u8 F1/\sg prog wx (.sl (ps.map Vec.toD)) 36 b8 LP F2/\pr prog wx (v.names.map .s) 25 b9 Jc Tl OH F3/\pr prog wx (v.cls.map .s) 25 Ht Jd Tm OI F4/\pr prog wx (v.levels.map .s) 25 Hu Je Tn OJ F5)/\
 (Fresh (w.heap.size+2) (F1++(F2++(F3++(F4++F5))))/\Lo wx.heap.size (F1++(F2++(F3++(F4++F5)))))/\(Hv=true->(b5=true/\b8=true/\Jc=true/\Jd=true/\Je=true)/\Qn= .agg #[v.kind,u8,LP,OH,OI,OJ,v.code,v.env])/\(Dk=true->Hv=true)
theorem Yy {x:Item} (h:itOK x) (w':World):own prog w' x.toD 135 [] (encItem x):=Ey x h rfl
theorem Lx {x:Str} (h:x.length<=maxLen) (w':World):own prog w' (.s x) 9 [] (encS x):=by rw[own];exact⟨rfl,rfl,h⟩
theorem rW {e:TypeId} (ht:prog.underlying t=some (.slice e)):own prog (w.alloc (.cells #[] e)) (.sl []) t [w.heap.size] [.slice (some ⟨w.heap.size,0,none⟩) 0 0]:=by rw[own];refine⟨e,_,0,0,_,[],[],ht,rfl,rfl,by unfold maxLen;omega,?_,rfl,by rw[bL,iv];exact⟨rfl,rfl⟩⟩;exact Own.new_ Row.len w [] #[] rfl rfl eb (dj _) rfl
theorem JN (v:Vec) (ps:List Vec) (hcp:∀A n c w,rep w w.heap.size (.sl (v.parts.map Vec.toD)) [.slice A n c]->Calls prog 127 #[.slice A n c] w (oK (ps.map Vec.toD) 36 w)) (cs:List Value) (w:World) (h:rep w w.heap.size v.toD cs) (hz:szD v.toD<=500000000000):
 Calls prog 56 #[av cs] w (gM ({v with parts:=ps}:Vec).toD 38 w):=by
 obtain⟨Ai,ni,ci,Ap,np,cp,An,nn,cn,Ac,nc,cc,Al,nl,cl,rfl,hv⟩:=iy h;have OD:=go v;simp only[szD,au]at OD;have li:=hv.it.len;have ln:=hv.na.len;have lc:=hv.ca.len;have ll:=hv.la.len;have q0:=((Below.refl w.heap.size w).alloc (af _) (.cells #[v.kind,.slice Ai ni ci,.slice Ap np cp,.slice An nn cn,.slice Ac nc cc,.slice Al nl cl,v.code,v.env] 38)).alloc eA (.cells Bj.toArray 38);have kA:Blk ((w.alloc (.cells #[v.kind,.slice Ai ni ci,.slice Ap np cp,.slice An nn cn,.slice Ac nc cc,.slice Al nl cl,v.code,v.env] 38)).alloc (.cells Bj.toArray 38)) w.heap.size 38 [v.kind,.slice Ai ni ci,.slice Ap np cp,.slice An nn cn,.slice Ac nc cc,.slice Al nl cl,v.code,v.env]:=(Blk.new' (l:=[.int .i64 v.kind,.slice Ai ni ci,.slice Ap np cp,.slice An nn cn,.slice Ac nc cc,.slice Al nl cl,.int .i64 v.code,.int .i64 v.env])).al;have kR:=Blk.new' (w:=w.alloc (.cells #[v.kind,.slice Ai ni ci,.slice Ap np cp,.slice An nn cn,.slice Ac nc cc,.slice Al nl cl,v.code,v.env] 38)) (t:=38) (l:=Bj);simp only[dT]at kR;have s0:w.heap.size+2<=((w.alloc (.cells #[v.kind,.slice Ai ni ci,.slice Ap np cp,.slice An nn cn,.slice Ac nc cc,.slice Al nl cl,v.code,v.env] 38)).alloc (.cells Bj.toArray 38)).heap.size:=eA;have bi:ni<=500000000000:=dP;have bn:nn<=500000000000:=dP;have bc:nc<=500000000000:=dP;have bl:nl<=500000000000:=dP;have HCP:=aa hcp;clear hcp OD li ln lc ll;go_enter func56,ntmps56;go_upto_region 1 with fail
 generalize (w.alloc (.cells #[v.kind,.slice Ai ni ci,.slice Ap np cp,.slice An nn cn,.slice Ac nc cc,.slice Al nl cl,v.code,v.env] 38)).alloc (.cells Bj.toArray 38)=W0 at q0 kA kR s0 ⊢;refine aW (S:=(λW=>W.cell? ⟨w.heap.size,0,none⟩=some (.int .i64 v.kind)/\W.cell? ⟨w.heap.size,1,none⟩=some (.slice Ai ni ci)/\W.cell? ⟨w.heap.size,2,none⟩=some (.slice Ap np cp)/\W.cell? ⟨w.heap.size,3,none⟩=some (.slice An nn cn)/\W.cell? ⟨w.heap.size,4,none⟩=some (.slice Ac nc cc)/\W.cell? ⟨w.heap.size,5,none⟩=some (.slice Al nl cl)/\W.cell? ⟨w.heap.size,6,none⟩=some (.int .i64 v.code)/\W.cell? ⟨w.heap.size,7,none⟩=some (.int .i64 v.env))) dU (show _ from kA.c8) (λhH=>?_);refine k_ 0 ?_;refine k_ 1 ?_;refine k_ 3 ?_;refine k_ 4 ?_;refine k_ 6 ?_;refine k_ 7 ?_;refine k_ 10 ?_;refine k_ 11 ?_;refine k_ 14 ?_;refine k_ 15 ?_;refine k_ 18 ?_;refine k_ 19 ?_;refine k_ 21 ?_;refine k_ 22 ?_;refine k_ 23 ?_;refine k_ 24 ?_;refine Qo (lcI ps v Ai ni ci Ap np cp An nn cn Ac nc cc Al nl cl w W0) ?_ (λl a wx hI=>?_) ?_ dU ?_ _ _ _ _ ?_ ?_
 ·intro l a wx hI;obtain⟨b2,b5,b8,b9,Jc,Ht,Jd,Hu,Je,Hv,Dk,u5,u8,LP,Tl,OH,Tm,OI,Tn,OJ,Qn,F1,F2,F3,F4,F5,⟨rfl,rfl⟩,⟨k1,k2,bb,zx⟩,⟨p1,s2,p3,p4,p5⟩,⟨fr,lo⟩,h25,QM⟩:=hI;rfl
 ·obtain⟨b2,b5,b8,b9,Jc,Ht,Jd,Hu,Je,Hv,Dk,u5,u8,LP,Tl,OH,Tm,OI,Tn,OJ,Qn,F1,F2,F3,F4,F5,⟨rfl,rfl⟩,⟨k1,k2,bb,zx⟩,⟨p1,s2,p3,p4,p5⟩,⟨fr,lo⟩,h25,QM⟩:=hI;exact k1.c8
 ·intro i o l a wx ho hl Iu hI K hK;obtain⟨b2,b5,b8,b9,Jc,Ht,Jd,Hu,Je,Hv,Dk,u5,u8,LP,Tl,OH,Tm,OI,Tn,OJ,Qn,F1,F2,F3,F4,F5,⟨rfl,rfl⟩,⟨k1,k2,bb,zx⟩,⟨p1,s2,p3,p4,p5⟩,⟨fr,lo⟩,h25,QM⟩:=hI;have hi:i<27:=(cN.1 ho).1;have Tx:i=0\/i=1\/i=2\/i=3\/i=4\/i=5\/i=6\/i=7\/i=8\/i=9\/i=10\/i=11\/i=12\/i=13\/i=14\/i=15\/i=16\/i=17\/i=18\/i=19\/i=20\/i=21\/i=22\/i=23\/i=24\/i=25\/i=26:=dP;clear hi;rcases Tx with rfl|rfl|rfl|rfl|rfl|rfl|rfl|rfl|rfl|rfl|rfl|rfl|rfl|rfl|rfl|rfl|rfl|rfl|rfl|rfl|rfl|rfl|rfl|rfl|rfl|rfl|rfl
  ·exact ic
  ·exact ic
  ·simp only[bE,ag,ah,cE]at ho;subst ho;obtain rfl:b2=false:=jk;cases b5 with
   |true=>exact absurd p1 lh
   |false=>
   obtain rfl:Hv=false:=lB;obtain rfl:Dk=false:=lA;have k2:Blk wx (w.heap.size+1) 38 Bj:=k2;obtain rfl:F1=[]:=p1;have fx:Fresh (w.heap.size+2) ([]++([]++(F2++(F3++(F4++F5))))):=kC;have lx:Lo wx.heap.size ([]++([]++(F2++(F3++(F4++F5))))):=ky;have md:Mod [] wx (wx.alloc (.cells #[] 135)):=Mod.of_below ((Below.refl _ _).alloc (af _) _);have f2:=Fresh.mid (Y':=[wx.heap.size]) fx lx zx dR (λx hx=>by simp at hx;right;omega);have l2:=Lo.mid (C':=(wx.alloc (.cells #[] 135)).heap.size) (Y':=[wx.heap.size]) lx eA (Lo.one eA);go_simp;refine hK _ _ ⟨true,false,b8,b9,Jc,Ht,Jd,Hu,Je,false,false,.slice (some ⟨wx.heap.size,0,none⟩) 0 0,u8,LP,Tl,OH,Tm,OI,Tn,OJ,Qn,[wx.heap.size],F2,F3,F4,F5,⟨rfl,rfl⟩,⟨k1.al,k2.al,gT bb dP,by simp only[dT];omega⟩,⟨⟨wx.heap.size,rfl,rW underlying35⟩,vU s2 md dR,iX p3 md dR,iX p4 md dR,iX p5 md dR⟩,⟨by simpa [aS]using f2,by simpa [aS]using l2⟩,?_,QM⟩;exact λMD=>absurd MD dR
  ·exact ic
  ·exact ic
  ·simp only[bE,ag,ah,cE]at ho;subst ho;obtain rfl:b5=false:=jk;obtain rfl:b2=true:=by simpa [CD]using Iu ⟨2,.data⟩ dR rfl
   obtain rfl:Hv=false:=lB;obtain rfl:Dk=false:=lA;have k2:Blk wx (w.heap.size+1) 38 Bj:=k2;obtain⟨g,rfl,op⟩:=p1;have fx:Fresh (w.heap.size+2) ([]++(F1++(F2++(F3++(F4++F5))))):=kC;have lx:Lo wx.heap.size ([]++(F1++(F2++(F3++(F4++F5))))):=ky;have ap:=fx.apart;refine qc (f:=Item.toD) encItem kM dU nW uY rfl (.tmp 5) (.tmp 7) rfl (g:=g) (F:=F1) rfl op Ai ni ci w.heap.size v.items rfl (hv.it.below bb) (λx hx w'=>Yy (hv.ito x hx) w') dP eb ?_;intro A' c' w' F' oN hF md;have f2:=Fresh.mid (Y':=F') fx lx zx hF.1 hF.2;have l2:=Lo.mid (C':=w'.heap.size) (Y':=F') lx md.size (gC oN);have gB:∀x∈F1,w.heap.size+2<=x:=λx hx=>fr.2 x iF
   have n1:w.heap.size ∉ F1:=λhx=>by have:=gB _ hx;omega
   have n2:w.heap.size+1 ∉ F1:=λhx=>by have:=gB _ hx;omega
   refine hK _ _ ⟨true,true,b8,b9,Jc,Ht,Jd,Hu,Je,false,false,.slice (some ⟨g,0,none⟩) 0 0,.slice A' ni c',LP,Tl,OH,Tm,OI,Tn,OJ,Qn,F',F2,F3,F4,F5,⟨rfl,rfl⟩,⟨k1.mod md n1,k2.mod md n2,jN bb md (λx hx=>by have:=gB x hx;omega) dP,by have:=md.size;omega⟩,⟨⟨A',_,c',rfl,oN⟩,vU s2 md (λg hg=>ap.2 g fe),iX p3 md (λg hg=>ap.2 g fe),iX p4 md (λg hg=>ap.2 g fe),iX p5 md (λg hg=>ap.2 g fe)⟩,⟨by simpa [aS]using f2,by simpa [aS]using l2⟩,?_,QM⟩;exact λMD=>absurd MD dR
  ·exact ic
  ·exact ic
  ·simp only[bE,ag,ah,cE]at ho;subst ho;obtain rfl:b8=false:=jk;obtain rfl:Hv=false:=lB;obtain rfl:Dk=false:=lA;have k2:Blk wx (w.heap.size+1) 38 Bj:=k2;obtain rfl:F2=[]:=s2;have fx:Fresh (w.heap.size+2) (F1++([]++(F3++(F4++F5)))):=kC;have lx:Lo wx.heap.size (F1++([]++(F3++(F4++F5)))):=ky;go_simp;refine(HCP.out _ _ _ _ (fb hv.pa bb bb.size)).mono ?_;rintro e w' ⟨A',n',c',F',rfl,oN,fN,bN⟩;have md:Mod [] wx w':=Mod.of_below bN;have f2:=Fresh.mid (Y':=F') fx lx zx fN.1 (λx hx=> .inr (fN.2 x hx));have l2:=Lo.mid (C':=w'.heap.size) (Y':=F') lx bN.size (gC oN);refine hK _ _ ⟨b2,b5,true,b9,Jc,Ht,Jd,Hu,Je,false,false,u5,u8,.slice A' n' c',Tl,OH,Tm,OI,Tn,OJ,Qn,F1,F',F3,F4,F5,⟨rfl,rfl⟩,⟨k1.next bN,k2.next bN,gR bb bN dP,by have:=bN.size;omega⟩,⟨iX p1 md dR,oN,iX p3 md dR,iX p4 md dR,iX p5 md dR⟩,⟨by simpa [aS]using f2,by simpa [aS]using l2⟩,?_,QM⟩;exact λMD=>absurd MD dR
  ·simp only[bE,ag,ah,cE]at ho;subst ho;obtain rfl:b9=false:=jk;cases Jc with
   |true=>exact absurd p3 lh
   |false=>
   obtain rfl:Hv=false:=lB;obtain rfl:Dk=false:=lA;have k2:Blk wx (w.heap.size+1) 38 Bj:=k2;obtain rfl:F3=[]:=p3;have fx:Fresh (w.heap.size+2) ((F1++F2)++([]++(F4++F5))):=kC;have lx:Lo wx.heap.size ((F1++F2)++([]++(F4++F5))):=ky;have md:Mod [] wx (wx.alloc (.cells #[] 9)):=Mod.of_below ((Below.refl _ _).alloc (af _) _);have f2:=Fresh.mid (Y':=[wx.heap.size]) fx lx zx dR (λx hx=>by simp at hx;right;omega);have l2:=Lo.mid (C':=(wx.alloc (.cells #[] 9)).heap.size) (Y':=[wx.heap.size]) lx eA (Lo.one eA);go_simp;refine hK _ _ ⟨b2,b5,b8,true,false,Ht,Jd,Hu,Je,false,false,u5,u8,LP,.slice (some ⟨wx.heap.size,0,none⟩) 0 0,OH,Tm,OI,Tn,OJ,Qn,F1,F2,[wx.heap.size],F4,F5,⟨rfl,rfl⟩,⟨k1.al,k2.al,gT bb dP,by simp only[dT];omega⟩,⟨iX p1 md dR,vU s2 md dR,⟨wx.heap.size,rfl,rW underlying25⟩,iX p4 md dR,iX p5 md dR⟩,⟨by simpa [aS]using f2,by simpa [aS]using l2⟩,?_,QM⟩;exact λMD=>absurd MD dR
  ·exact ic
  ·exact ic
  ·simp only[bE,ag,ah,cE]at ho;subst ho;obtain rfl:Jc=false:=jk;obtain rfl:b9=true:=by simpa [CD]using Iu ⟨9,.data⟩ dR rfl
   obtain rfl:Hv=false:=lB;obtain rfl:Dk=false:=lA;have k2:Blk wx (w.heap.size+1) 38 Bj:=k2;obtain⟨g,rfl,op⟩:=p3;have fx:Fresh (w.heap.size+2) ((F1++F2)++(F3++(F4++F5))):=kC;have lx:Lo wx.heap.size ((F1++F2)++(F3++(F4++F5))):=ky;have ap:=fx.apart;refine qc (f:=D.s) encS jm dU gW iK rfl (.tmp 12) (.tmp 14) rfl (g:=g) (F:=F3) rfl op An nn cn w.heap.size v.names rfl (hv.na.below bb) (λx hx w'=>Lx (hv.nao x hx) w') dP eb ?_;intro A' c' w' F' oN hF md;have f2:=Fresh.mid (Y':=F') fx lx zx hF.1 hF.2;have l2:=Lo.mid (C':=w'.heap.size) (Y':=F') lx md.size (gC oN);have gB:∀x∈F3,w.heap.size+2<=x:=λx hx=>fr.2 x iF
   have n1:w.heap.size ∉ F3:=λhx=>by have:=gB _ hx;omega
   have n2:w.heap.size+1 ∉ F3:=λhx=>by have:=gB _ hx;omega
   refine hK _ _ ⟨b2,b5,b8,true,true,Ht,Jd,Hu,Je,false,false,u5,u8,LP,.slice (some ⟨g,0,none⟩) 0 0,.slice A' nn c',Tm,OI,Tn,OJ,Qn,F1,F2,F',F4,F5,⟨rfl,rfl⟩,⟨k1.mod md n1,k2.mod md n2,jN bb md (λx hx=>by have:=gB x hx;omega) dP,by have:=md.size;omega⟩,⟨iX p1 md (λg hg=>ap.1 g fe),vU s2 md (λg hg=>ap.1 g fe),⟨A',_,c',rfl,oN⟩,iX p4 md (λg hg=>ap.2 g fe),iX p5 md (λg hg=>ap.2 g fe)⟩,⟨by simpa [aS]using f2,by simpa [aS]using l2⟩,?_,QM⟩;exact λMD=>absurd MD dR
  ·simp only[bE,ag,ah,cE]at ho;subst ho;obtain rfl:Ht=false:=jk;cases Jd with
   |true=>exact absurd p4 lh
   |false=>
   obtain rfl:Hv=false:=lB;obtain rfl:Dk=false:=lA;have k2:Blk wx (w.heap.size+1) 38 Bj:=k2;obtain rfl:F4=[]:=p4;have fx:Fresh (w.heap.size+2) ((F1++(F2++F3))++([]++F5)):=kC;have lx:Lo wx.heap.size ((F1++(F2++F3))++([]++F5)):=ky;have md:Mod [] wx (wx.alloc (.cells #[] 9)):=Mod.of_below ((Below.refl _ _).alloc (af _) _);have f2:=Fresh.mid (Y':=[wx.heap.size]) fx lx zx dR (λx hx=>by simp at hx;right;omega);have l2:=Lo.mid (C':=(wx.alloc (.cells #[] 9)).heap.size) (Y':=[wx.heap.size]) lx eA (Lo.one eA);go_simp;refine hK _ _ ⟨b2,b5,b8,b9,Jc,true,false,Hu,Je,false,false,u5,u8,LP,Tl,OH,.slice (some ⟨wx.heap.size,0,none⟩) 0 0,OI,Tn,OJ,Qn,F1,F2,F3,[wx.heap.size],F5,⟨rfl,rfl⟩,⟨k1.al,k2.al,gT bb dP,by simp only[dT];omega⟩,⟨iX p1 md dR,vU s2 md dR,iX p3 md dR,⟨wx.heap.size,rfl,rW underlying25⟩,iX p5 md dR⟩,⟨by simpa [aS]using f2,by simpa [aS]using l2⟩,?_,QM⟩;exact λMD=>absurd MD dR
  ·exact ic
  ·exact ic
  ·simp only[bE,ag,ah,cE]at ho;subst ho;obtain rfl:Jd=false:=jk;obtain rfl:Ht=true:=by simpa [CD]using Iu ⟨13,.data⟩ dR rfl
   obtain rfl:Hv=false:=lB;obtain rfl:Dk=false:=lA;have k2:Blk wx (w.heap.size+1) 38 Bj:=k2;obtain⟨g,rfl,op⟩:=p4;have fx:Fresh (w.heap.size+2) ((F1++(F2++F3))++(F4++F5)):=kC;have lx:Lo wx.heap.size ((F1++(F2++F3))++(F4++F5)):=ky;have ap:=fx.apart;refine qc (f:=D.s) encS jm dU gW iK rfl (.tmp 16) (.tmp 18) rfl (g:=g) (F:=F4) rfl op Ac nc cc w.heap.size v.cls rfl (hv.ca.below bb) (λx hx w'=>Lx (hv.cao x hx) w') dP eb ?_;intro A' c' w' F' oN hF md;have f2:=Fresh.mid (Y':=F') fx lx zx hF.1 hF.2;have l2:=Lo.mid (C':=w'.heap.size) (Y':=F') lx md.size (gC oN);have gB:∀x∈F4,w.heap.size+2<=x:=λx hx=>fr.2 x iF
   have n1:w.heap.size ∉ F4:=λhx=>by have:=gB _ hx;omega
   have n2:w.heap.size+1 ∉ F4:=λhx=>by have:=gB _ hx;omega
   refine hK _ _ ⟨b2,b5,b8,b9,Jc,true,true,Hu,Je,false,false,u5,u8,LP,Tl,OH,.slice (some ⟨g,0,none⟩) 0 0,.slice A' nc c',Tn,OJ,Qn,F1,F2,F3,F',F5,⟨rfl,rfl⟩,⟨k1.mod md n1,k2.mod md n2,jN bb md (λx hx=>by have:=gB x hx;omega) dP,by have:=md.size;omega⟩,⟨iX p1 md (λg hg=>ap.1 g fe),vU s2 md (λg hg=>ap.1 g fe),iX p3 md (λg hg=>ap.1 g fe),⟨A',_,c',rfl,oN⟩,iX p5 md (λg hg=>ap.2 g fe)⟩,⟨by simpa [aS]using f2,by simpa [aS]using l2⟩,?_,QM⟩;exact λMD=>absurd MD dR
  ·simp only[bE,ag,ah,cE]at ho;subst ho;obtain rfl:Hu=false:=jk;cases Je with
   |true=>exact absurd p5 lh
   |false=>
   obtain rfl:Hv=false:=lB;obtain rfl:Dk=false:=lA;have k2:Blk wx (w.heap.size+1) 38 Bj:=k2;obtain rfl:F5=[]:=p5;have fx:Fresh (w.heap.size+2) ((F1++(F2++(F3++F4)))++([]++[])):=kC;have lx:Lo wx.heap.size ((F1++(F2++(F3++F4)))++([]++[])):=ky;have md:Mod [] wx (wx.alloc (.cells #[] 9)):=Mod.of_below ((Below.refl _ _).alloc (af _) _);have f2:=Fresh.mid (Y':=[wx.heap.size]) fx lx zx dR (λx hx=>by simp at hx;right;omega);have l2:=Lo.mid (C':=(wx.alloc (.cells #[] 9)).heap.size) (Y':=[wx.heap.size]) lx eA (Lo.one eA);go_simp;refine hK _ _ ⟨b2,b5,b8,b9,Jc,Ht,Jd,true,false,false,false,u5,u8,LP,Tl,OH,Tm,OI,.slice (some ⟨wx.heap.size,0,none⟩) 0 0,OJ,Qn,F1,F2,F3,F4,[wx.heap.size],⟨rfl,rfl⟩,⟨k1.al,k2.al,gT bb dP,by simp only[dT];omega⟩,⟨iX p1 md dR,vU s2 md dR,iX p3 md dR,iX p4 md dR,⟨wx.heap.size,rfl,rW underlying25⟩⟩,⟨by simpa [aS]using f2,by simpa [aS]using l2⟩,?_,QM⟩;exact λMD=>absurd MD dR
  ·exact ic
  ·exact ic
  ·simp only[bE,ag,ah,cE]at ho;subst ho;obtain rfl:Je=false:=jk;obtain rfl:Hu=true:=by simpa [CD]using Iu ⟨17,.data⟩ dR rfl
   obtain rfl:Hv=false:=lB;obtain rfl:Dk=false:=lA;have k2:Blk wx (w.heap.size+1) 38 Bj:=k2;obtain⟨g,rfl,op⟩:=p5;have fx:Fresh (w.heap.size+2) ((F1++(F2++(F3++F4)))++(F5++[])):=kC;have lx:Lo wx.heap.size ((F1++(F2++(F3++F4)))++(F5++[])):=ky;have ap:=fx.apart;refine qc (f:=D.s) encS jm dU gW iK rfl (.tmp 20) (.tmp 22) rfl (g:=g) (F:=F5) rfl op Al nl cl w.heap.size v.levels rfl (hv.la.below bb) (λx hx w'=>Lx (hv.lao x hx) w') dP eb ?_;intro A' c' w' F' oN hF md;have f2:=Fresh.mid (Y':=F') fx lx zx hF.1 hF.2;have l2:=Lo.mid (C':=w'.heap.size) (Y':=F') lx md.size (gC oN);have gB:∀x∈F5,w.heap.size+2<=x:=λx hx=>fr.2 x iF
   have n1:w.heap.size ∉ F5:=λhx=>by have:=gB _ hx;omega
   have n2:w.heap.size+1 ∉ F5:=λhx=>by have:=gB _ hx;omega
   refine hK _ _ ⟨b2,b5,b8,b9,Jc,Ht,Jd,true,true,false,false,u5,u8,LP,Tl,OH,Tm,OI,.slice (some ⟨g,0,none⟩) 0 0,.slice A' nl c',Qn,F1,F2,F3,F4,F',⟨rfl,rfl⟩,⟨k1.mod md n1,k2.mod md n2,jN bb md (λx hx=>by have:=gB x hx;omega) dP,by have:=md.size;omega⟩,⟨iX p1 md (λg hg=>ap.1 g fe),vU s2 md (λg hg=>ap.1 g fe),iX p3 md (λg hg=>ap.1 g fe),iX p4 md (λg hg=>ap.1 g fe),⟨A',_,c',rfl,oN⟩⟩,⟨by simpa [aS]using f2,by simpa [aS]using l2⟩,?_,QM⟩;exact λMD=>absurd MD dR
  ·exact ic
  ·exact ic
  ·exact ic
  ·exact ic
  ·simp only[bE,ag,ah,cE]at ho;subst ho;obtain rfl:Hv=false:=jk;obtain rfl:Dk=false:=by cases Dk with|false=>rfl|true=>exact absurd (QM rfl) dR
   obtain rfl:b5=true:=by simpa [CD]using Iu ⟨5,.data⟩ dR rfl
   obtain rfl:b8=true:=by simpa [CD]using Iu ⟨8,.data⟩ dR rfl
   obtain rfl:Jc=true:=by simpa [CD]using Iu ⟨12,.data⟩ dR rfl
   obtain rfl:Jd=true:=by simpa [CD]using Iu ⟨16,.data⟩ dR rfl
   obtain rfl:Je=true:=by simpa [CD]using Iu ⟨20,.data⟩ dR rfl
   obtain rfl:b2=true:=BW;obtain rfl:b9=true:=BX;obtain rfl:Ht=true:=BZ;obtain rfl:Hu=true:=BJ;have p10:=p1;obtain⟨A0,n0,c0,rfl,_⟩:=p1;have p30:=p3;obtain⟨A2,n2,c2,rfl,_⟩:=p3;have p40:=p4;obtain⟨A3,n3,c3,rfl,_⟩:=p4;have p50:=p5;obtain⟨A4,n4,c4,rfl,_⟩:=p5;obtain⟨A1,n1,c1,he1⟩:=fD (eW _ _ _ _ (show own prog wx (.sl (ps.map Vec.toD)) 36 F2 [LP] from s2));injection he1 with he1
   subst he1;go_simp;refine hK _ _ ⟨true,true,true,true,true,true,true,true,true,true,false,_,_,_,_,_,_,_,_,_,_,F1,F2,F3,F4,F5,⟨rfl,rfl⟩,⟨k1,k2,bb,zx⟩,⟨p10,s2,p30,p40,p50⟩,⟨fr,lo⟩,λ_=>⟨⟨rfl,rfl,rfl,rfl,rfl⟩,rfl⟩,λh=>absurd h dR⟩
  ·simp only[bE,ag,ah,cE]at ho;subst ho;obtain rfl:Dk=false:=jk;obtain rfl:Hv=true:=by simpa [CD]using Iu ⟨25,.data⟩ dR rfl
   obtain⟨⟨rfl,rfl,rfl,rfl,rfl⟩,rfl⟩:=h25 rfl;obtain rfl:b2=true:=BW;obtain rfl:b9=true:=BX;obtain rfl:Ht=true:=BZ;obtain rfl:Hu=true:=BJ;obtain⟨A0,n0,c0,rfl,o0⟩:=p1;obtain⟨A2,n2,c2,rfl,o2⟩:=p3;obtain⟨A3,n3,c3,rfl,o3⟩:=p4;obtain⟨A4,n4,c4,rfl,o4⟩:=p5;have o1:own prog wx (.sl (ps.map Vec.toD)) 36 F2 [LP]:=s2;obtain⟨A1,n1,c1,he1⟩:=fD (eW _ _ _ _ o1);injection he1 with he1
   subst he1;have k2':Blk wx (w.heap.size+1) 38 Bj:=k2;obtain⟨r0,r1,r2,r3,r4,r5,r6,r7⟩:=k2'.c8;have zr:=λi=>k2'.frozen i
   have Tq:=zr 0;have zr1:=zr 1;have zr2:=zr 2;have zr3:=zr 3;have zr4:=zr 4;have zr5:=zr 5;have zr6:=zr 6;have zr7:=zr 7;clear zr;have gB:∀x∈(F1++(F2++(F3++(F4++F5)))),w.heap.size+2<=x:=fr.2;have nf1:w.heap.size+1 ∉ F1:=λhx=>by have:=gB (w.heap.size+1) iF;omega
   have nf2:w.heap.size+1 ∉ F2:=λhx=>by have:=gB (w.heap.size+1) iF;omega
   have nf3:w.heap.size+1 ∉ F3:=λhx=>by have:=gB (w.heap.size+1) iF;omega
   have nf4:w.heap.size+1 ∉ F4:=λhx=>by have:=gB (w.heap.size+1) iF;omega
   have nf5:w.heap.size+1 ∉ F5:=λhx=>by have:=gB (w.heap.size+1) iF;omega
   go_simp;refine hK _ _ ⟨true,true,true,true,true,true,true,true,true,true,true,_,_,_,_,_,_,_,_,_,_,F1,F2,F3,F4,F5,⟨rfl,rfl⟩,⟨?_,k2'.set8,?_,?_⟩,⟨⟨A0,n0,c0,rfl,?_⟩,?_,⟨A2,n2,c2,rfl,?_⟩,⟨A3,n3,c3,rfl,?_⟩,⟨A4,n4,c4,rfl,?_⟩⟩,⟨fr,?_⟩,λ_=>⟨⟨rfl,rfl,rfl,rfl,rfl⟩,rfl⟩,λ_=>rfl⟩
   ·exact uv
   ·exact mg
   ·simp only[dX];exact zx
   ·exact um
   ·show own _ _ _ _ _ _
    (repeat'(first|with_reducible assumption|with_reducible refine ft ?_ ?_))
   ·exact um
   ·exact um
   ·exact um
   ·simp only[dX];exact lo
 ·intro l a wx hI jb;obtain⟨b2,b5,b8,b9,Jc,Ht,Jd,Hu,Je,Hv,Dk,u5,u8,LP,Tl,OH,Tm,OI,Tn,OJ,Qn,F1,F2,F3,F4,F5,⟨rfl,rfl⟩,⟨k1,k2,bb,zx⟩,⟨p1,s2,p3,p4,p5⟩,⟨fr,lo⟩,h25,QM⟩:=hI;obtain rfl:b2=true:=by simpa [CD]using jb 2 dQ
  obtain rfl:b5=true:=by simpa [CD]using jb 5 dQ
  obtain rfl:b8=true:=by simpa [CD]using jb 8 dQ
  obtain rfl:b9=true:=by simpa [CD]using jb 9 dQ
  obtain rfl:Jc=true:=by simpa [CD]using jb 12 dQ
  obtain rfl:Ht=true:=by simpa [CD]using jb 13 dQ
  obtain rfl:Jd=true:=by simpa [CD]using jb 16 dQ
  obtain rfl:Hu=true:=by simpa [CD]using jb 17 dQ
  obtain rfl:Je=true:=by simpa [CD]using jb 20 dQ
  obtain rfl:Hv=true:=by simpa [CD]using jb 25 dQ
  obtain rfl:Dk=true:=by simpa [CD]using jb 26 dQ
  obtain⟨A0,n0,c0,rfl,o0⟩:=p1;obtain⟨A2,n2,c2,rfl,o2⟩:=p3;obtain⟨A3,n3,c3,rfl,o3⟩:=p4;obtain⟨A4,n4,c4,rfl,o4⟩:=p5;have o1:own prog wx (.sl (ps.map Vec.toD)) 36 F2 [LP]:=s2;obtain⟨A1,n1,c1,he1⟩:=fD (eW _ _ _ _ o1);injection he1 with he1
  subst he1;have k2':Blk wx (w.heap.size+1) 38 [v.kind,.slice A0 n0 c0,.slice A1 n1 c1,.slice A2 n2 c2,.slice A3 n3 c3,.slice A4 n4 c4,v.code,v.env]:=k2;obtain⟨r0,r1,r2,r3,r4,r5,r6,r7⟩:=k2'.c8;have Cz:w.heap.size+1<wx.heap.size:=dP;go_wp2_with fail;refine bM (v:= .agg #[v.kind,.slice A0 n0 c0,.slice A1 n1 c1,.slice A2 n2 c2,.slice A3 n3 c3,.slice A4 n4 c4,v.code,v.env]) (by simp [results,results56,go_sem,r0,r1,r2,r3,r4,r5,r6,r7]) rfl ⟨_,F1++(F2++(F3++(F4++(F5++[])))),rfl,?_,?_,bb⟩
  ·exact jD (x:={v with parts:=ps}) hv.wk o0 o1 o2 o3 o4 hv.wc hv.we
  ·rw[bP];exact fr.mono dP
 ·decide
 ·refine⟨false,false,false,false,false,false,false,false,false,false,false,undef,undef,undef,undef,undef,undef,undef,undef,undef,undef,[],[],[],[],[],⟨?_,?_⟩,⟨kA.dw,kR.dw,q0.drew,s0⟩,⟨rfl,rfl,rfl,rfl,rfl⟩,⟨Fresh.nil,Lo.nil⟩,λh=>absurd h dR,λh=>absurd h dR⟩
  ·kernel_rfl
  ·kernel_rfl
theorem ru {P:Program} {xs:List D} (h:own P w (.sl xs) t F cs):∃A n c,cs=[.slice A n c]:=fD (eW _ _ _ _ h)
theorem uT {x:Vec} (h:own prog w x.toD 38 F cs):∃(Ai:Option Addr) (ni ci:Nat) (Ap:Option Addr) (np cp:Nat) (An:Option Addr) (nn cn:Nat) (Ac:Option Addr) (nc cc:Nat) (Al:Option Addr) (nl cl:Nat) (F1 F2 F3 F4 F5:List Nat),
 cs=[.int .i64 x.kind,.slice Ai ni ci,.slice Ap np cp,.slice An nn cn,.slice Ac nc cc,.slice Al nl cl,.int .i64 x.code,.int .i64 x.env]/\F=F1++(F2++(F3++(F4++F5)))/\(Lit.int .i64 x.kind).wf=true/\
 own prog w (.sl (x.items.map Item.toD)) 35 F1 [.slice Ai ni ci]/\own prog w (.sl (x.parts.map Vec.toD)) 36 F2 [.slice Ap np cp]/\own prog w (.sl (x.names.map .s)) 25 F3 [.slice An nn cn]/\
 own prog w (.sl (x.cls.map .s)) 25 F4 [.slice Ac nc cc]/\own prog w (.sl (x.levels.map .s)) 25 F5 [.slice Al nl cl]/\(Lit.int .i64 x.code).wf=true/\(Lit.int .i64 x.env).wf=true:=by
 rw[kF,own]at h;obtain⟨KW,css,hu,rfl,h⟩:=h;rw[underlying38]at hu;injection hu with hu;injection hu with hu;subst hu
 rw[iB]at h;obtain⟨t1,t2,G1,H1,c1,d1,ht,rfl,rfl,k1,h⟩:=h;injection ht with e1 e2;subst e1 e2
 rw[iB]at h;obtain⟨t1,t2,G2,H2,c2,d2,ht,rfl,rfl,k2,h⟩:=h;injection ht with e1 e2;subst e1 e2
 rw[iB]at h;obtain⟨t1,t2,G3,H3,c3,d3,ht,rfl,rfl,k3,h⟩:=h;injection ht with e1 e2;subst e1 e2
 rw[iB]at h;obtain⟨t1,t2,G4,H4,c4,d4,ht,rfl,rfl,k4,h⟩:=h;injection ht with e1 e2;subst e1 e2
 rw[iB]at h;obtain⟨t1,t2,G5,H5,c5,d5,ht,rfl,rfl,k5,h⟩:=h;injection ht with e1 e2;subst e1 e2
 rw[iB]at h;obtain⟨t1,t2,G6,H6,c6,d6,ht,rfl,rfl,k6,h⟩:=h;injection ht with e1 e2;subst e1 e2
 rw[iB]at h;obtain⟨t1,t2,G7,H7,c7,d7,ht,rfl,rfl,k7,h⟩:=h;injection ht with e1 e2;subst e1 e2
 rw[iB]at h;obtain⟨t1,t2,G8,H8,c8,d8,ht,rfl,rfl,k8,h⟩:=h;injection ht with e1 e2;subst e1 e2
 rw[iB]at h;obtain⟨_,rfl,rfl⟩:=h;rw[own]at k1 k7 k8;obtain⟨rfl,rfl,w1⟩:=k1;obtain⟨rfl,rfl,w7⟩:=k7;obtain⟨rfl,rfl,w8⟩:=k8;obtain⟨A2,n2,c2',rfl⟩:=ru k2;obtain⟨A3,n3,c3',rfl⟩:=ru k3;obtain⟨A4,n4,c4',rfl⟩:=ru k4;obtain⟨A5,n5,c5',rfl⟩:=ru k5;obtain⟨A6,n6,c6',rfl⟩:=ru k6;exact⟨_,_,_,_,_,_,_,_,_,_,_,_,_,_,_,G2,G3,G4,G5,G6,rfl,by simp,w1,k2,k3,k4,k5,k6,w7,w8⟩
theorem Li (A:Option Addr) (c:Nat) (w:World):Calls prog 127 #[.slice A 0 c] w (oK [] 36 w):=by go_enter func127,ntmps127;go_wp2_with fail;refine aZ 1 ?_;rw[dF];go_wp2_with fail;go_ret;exact⟨_,0,0,[w.heap.size],rfl,rW underlying36,⟨by simp,by simp⟩,(Below.refl _ _).alloc (af _) _⟩
theorem tZ (v:Vec) (hp:v.parts=[]) (cs:List Value) (w:World) (h:rep w w.heap.size v.toD cs) (hz:szD v.toD<=500000000000):Calls prog 56 #[av cs] w (gM v.toD 38 w):=by
 have:=JN v [] (λA n c w hr=>by rw[hp]at hr;have hl:=(ef hr).1;simp at hl;subst hl;exact Li A c w) cs w h hz
 have e:({v with parts:=[]}:Vec)=v:=by cases v;simp only at hp;subst hp;rfl
 rw[e]at this;exact this
end Go.Proofs.YtekcpadlmfaihaaGreat
