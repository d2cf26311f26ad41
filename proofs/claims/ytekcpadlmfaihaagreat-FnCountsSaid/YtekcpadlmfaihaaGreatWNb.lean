/- putPart. -/
import Derived.Test.YtekcpadlmfaihaaGreatWMeg
import Derived.Test.YtekcpadlmfaihaaGreatWHe
import Derived.Test.YtekcpadlmfaihaaGreatWLh
import Derived.Test.YtekcpadlmfaihaaGreatWLk
import Derived.Test.YtekcpadlmfaihaaGreatWHye
import Derived.Test.YtekcpadlmfaihaaGreatWLx
import Derived.Test.YtekcpadlmfaihaaGreatWNa
import Derived.Test.YtekcpadlmfaihaaGreatWHh
import Derived.Test.YtekcpadlmfaihaaGreatWHu
import Derived.Test.YtekcpadlmfaihaaGreatWDtCell
namespace Go.Proofs.YtekcpadlmfaihaaGreat
open Go.RowKit Proofs.Tryz
set_option maxHeartbeats 8000000
set_option maxRecDepth 100000
set_option linter.unusedSimpArgs false
set_option linter.unusedVariables false
variable {h:Hp} {R:List As} {F X:List Nat} {g j k n q:Nat} {v:Vec} {w w0:World}
theorem Mem.ofHB (H:HB w g h F):Mem prog w (g::F) w [.bx g h.toD 28]:=Gd
theorem Mem.toHB {w':World} {h':Hp} (M:Mem prog w (g::F) w' [.bx g h'.toD 28]):∃F',HB w' g h' F'/\Sub w.heap.size F F'/\Mod (g::F) w w':=Ga
theorem Mem.setIntG {c:Nat} {l:List Int} {x y:Int} (M:Mem prog w0 X w (.ow (.sl (l.map (.i .i64))) 26 [.slice (some ⟨g,0,none⟩) n c]::R)) (hk:l[k]?=some x) (hy:(Lit.int .i64 y).wf=true):
 (∃u,w.cell? ⟨g,k,none⟩=some u)/\w.frozen? ⟨g,k,none⟩=false/\g<w.heap.size/\Mem prog w0 X (w.setCell ⟨g,k,none⟩ (.int .i64 y)) (.ow (.sl ((l.set k y).map (.i .i64))) 26 [.slice (some ⟨g,0,none⟩) n c]::R):=by
 obtain⟨g',h1,h2,h3,h4,h5⟩:=Mem.setEl (k:=k) (d:= .i .i64 x) (d':= .i .i64 y) (cs':=[.int .i64 y]) ((M.int (t:=3) hy).pull 1 rfl) underlying26 sC (λF cs h=>by rw[own]at h;obtain⟨_,rfl,_⟩:=h;rfl);injection h1 with h1;injection h1 with h1;subst h1
 refine⟨by have:=h2 0 dR;simpa using this,h3 k,h4,?_⟩;rw[<-dH]at h5;simp only[bt,cu]at h5;exact h5
def tb (c:Cel) (j:Nat) (i:Int):Cel:=⟨c.count,⟨4,c.value.items,c.value.parts,c.value.names,c.value.cls,c.value.levels,c.value.code,c.value.env⟩,c.parts.set j i⟩
def qb (c:Cel) (t:Str) (i:Int):Cel:=⟨c.count,⟨4,c.value.items,c.value.parts,gA c.value.names c.parts.length++[t],c.value.cls,c.value.levels,c.value.code,c.value.env⟩,c.parts++[i]⟩
theorem Ly (h h2:Hp) (s t:Str) (i k:Nat) (x x2:Cel) (a:Int) (g:Nat) (F:List Nat) (w:World) (H:HB w g h F) (jP:h.names.length=h.slots.length) (adC:cellD h t=(i:Int)) (qD:h.cells[i]?=some x) (Zw: -1152921504606846976<=x.count/\x.count<=1152921504606846976) (hil:(i:Int)<=1073741824)
 (HO:∀(F:List Nat) (W:World),HB W g (eG h i (gE x)) F->Calls prog 44 #[.pointer (some ⟨g,0,none⟩),sv s] W λe w'=>e= .returned (.int .i64 (k:Nat))/\∃F',HB w' g h2 F'/\Sub W.heap.size F F'/\Mod (g::F) W w')
 (abH:h2.cells[k]?=some x2) (ha:ix x2.value.names t 0=a) (hnl:x2.value.names.length<=40) (mD:x2.parts.length<=40) (Mc:t.length<=maxLen)
 (TP:∀j:Nat,a=(j:Int)->∃y,x2.parts[j]?=some y/\relOK 5 (eG h2 k (tb x2 j (i:Int))) y):
 Calls prog 46 #[.pointer (some ⟨g,0,none⟩),sv s,sv t] w λe w'=>e= .returned (.tuple #[])/\∃F',HB w' g (if 0<=a then iD 5 (eG h2 k (tb x2 a.toNat (i:Int))) ((x2.parts[a.toNat]?).getD 0) else eG h2 k (qb x2 t (i:Int))) F'/\Sub w.heap.size F F'/\Mod (g::F) w w':=by
 have gK:=aa jP;have hci:=aa adC;have hx:=aa qD;have Md:=aa abH;have Qv:=aa ha;have ht:=aa Mc;have Cb:=aa HO;have HR:=aa TP;have hic:i<h.cells.length:=(ay.1 qD).1;have hkc:k<h2.cells.length:=(ay.1 abH).1;have j0:(0:Int)<=(i:Int):=dP;have j1:(i:Int)<(h.cells.length:Int):=dP;have j2:(0:Int)<=(k:Int):=dP;have j3:(k:Int)<(h2.cells.length:Int):=dP;have wfi:(Lit.int .i64 ((i:Nat):Int)).wf=true:=kP.2 fP;have wxi:(Lit.int .i64 (x.count+1)).wf=true:=kP.2 fP;obtain⟨nf,hnf⟩:∃l,gA x2.value.names x2.parts.length=l:=⟨_,rfl⟩;have HNF:=aa hnf;have AU:nf.length<=40:=by
  rw[<-hnf,gA];split
  ·simp;omega
  ·exact hnl
 obtain⟨i0,DI,rJ,tW,hz2⟩:=cZ N7;have xx:=λW=>iw (P:=prog) 25 9 i0 _ underlying25 DI rJ .i64 .i64 x2.parts.length x2.parts.length (af _) jj dP W;rw[tW,cu]at xx;have M0:=Mem.ofHB H;clear jP adC qD abH ha Mc HO TP hnf;obtain⟨Il,M0⟩:=M0.bxOpen;obtain⟨Ah,ch,An,cn,Ak,cs,rfl,To,M0⟩:=Mem.openHeap (h:=h) (M0.pull 1 rfl);have M:=M0.up [];go_enter func46,ntmps46;refine Sq (Sb M [3] 4 ?_);refine Ij M 0 (λ_=> .int .i64 (i:Nat)) (λ_=>[]) (λK Z hK=>by have hr:=(M.joinHeap (h:=h) To).rp 0 rfl;go_simp;go_at_call 38;refine(tJ h gK.out t _ _ hr).mono ?_;rintro e w' ⟨rfl,hb⟩;rw[hci.out];exact hK (mA 0) w' (M.next hb)) (λJ1 wv M=>?_)
 refine Sb M [] 1 (Sz ?_);obtain⟨gc,Nb⟩:=(M.pull 0 rfl).some0 underlying24 dP;subst Nb;obtain⟨Ei,ui,Ep,up,Ex,ux,Ec,uc,El,ul,Ez,uz,pre,post,ca,cb,iZ,-,wx1,Qp,Qq,Qr,M,jO⟩:=Mem.cellOut M hx.out;refine Sq (Sh ((M.bl 0 rfl).mid iZ) M [11] 8 ?_);refine So (.int .i64 (x.count+1)) (λK Z hK=>by go_simp;rw[FM];exact hK;omega) ?_
 refine Sb M [] 2 ?_;refine Sm M iZ (λwv M=>Sz ?_);replace M:=jO _ _ _ _ (gE x) _ _ _ _ _ _ _ _ _ _ _ _ _ _ _ _ _ _ wxi Qp Qq Qr M;replace M:=Mem.bxShut ((Mem.joinHeap (h:=(eG h i (gE x))) M To).pull 1 rfl);replace M:=M.up [];refine Sq (Sb M [] 2 ?_);refine Ij M 1 (λ_=> .int .i64 (k:Nat)) (λ_=>[.bx (g) (Hp.toD h2) 28]) (λK Z hK=>by go_simp;go_at_call 44;exact M.heapCall (h':=h2) (λF HF _=>Cb.out F _ HF) (λw' M'=>hK (mA 0) w' M')) (λJ2 wv M=>?_)
 refine Sb M [] 1 (Sz ?_);obtain⟨Il,M⟩:=M.bxOpen;obtain⟨Ahb,chb,Anb,cnb,Akb,csb,rfl,Bh,M⟩:=Mem.openHeap (h:=h2) (M.pull 1 rfl);replace M:=M.up [];obtain⟨gd,zK⟩:=(M.pull 0 rfl).some0 underlying24 dP;subst zK;refine Ra M [3] ?_;obtain⟨Wn,WI,Wp,WK,WS,Y2,Wm,WH,Wo,WJ,Wq,TH,IP,xC,cab,cbb,g_,-,FN,L3,FO,FQ,M,pw⟩:=Mem.cellOut M Md.out;refine Sq (Sb M [] 4 ?_);refine Sm M g_ (λwv M=>Sz (Sq ?_));refine Sh ((M.bl 0 rfl).mid g_) M [] 6 ?_;replace M:=M.up [3];refine Sc (aF (jx _ _ _ x2.value.names t _ (pd (M.rp 0 rfl)) eb) ?_);rintro e w' ⟨rfl,rfl⟩;rw[Qv.out];refine Sp ?_;refine Sb M [] 1 (Sz (ae ?_));refine Ra M [] ?_;refine lW (λtU=>?_) (λtU=>?_)
 ·rw[tU];replace tU:=aa tU;have ha0:0<=a:=sq;obtain⟨j,rfl⟩:=bQ ha0;obtain⟨y,hy,hyr⟩:=HR.out j rfl;have hjl:j<x2.parts.length:=(ay.1 hy).1;replace hy:=aa hy;replace hyr:=aa hyr;have j4:(0:Int)<=(j:Int):=dP;have j5:(j:Int)<(x2.parts.length:Int):=dP;obtain⟨gq,hgq⟩:=(M.pull 6 rfl).some0 underlying26 dP;subst hgq;refine Sq (Sh ((M.bl 1 rfl).mid g_) M [] 6 ?_);replace M:=M.up [6];refine So (.int .i64 y) (λK Z hK=>by have c0:wv.cell? _=some (.int .i64 y):=(M.intAt (k:=j) hy.out).1;clear M;go_simp;exact hK) ?_
  refine Sb M [] 1 (Sz (Sq ?_));refine Sh ((M.bl 2 rfl).mid g_) M [] 7 ?_;refine Ij M 1 (λ_=>undef) (λ_=>[.ow (.sl ((x2.parts.set j ((i:Nat):Int)).map (.i .i64))) 26 [.slice (some ⟨gq,0,none⟩) x2.parts.length TH]]) (λK Z hK=>by obtain⟨⟨u0,c0⟩,f0,hg,M'⟩:=M.setIntG (k:=j) (y:=((i:Nat):Int)) hy.out wfi;clear M;go_simp;exact hK (mA 0) _ M') (λJ4 wv M=>Sz ?_)
  replace M:=M.up [6,6,3,6,6,6];replace M:=pw _ _ _ _ (⟨x2.count,⟨4,x2.value.items,x2.value.parts,x2.value.names,x2.value.cls,x2.value.levels,x2.value.code,x2.value.env⟩,x2.parts.set j ((i:Nat):Int)⟩:Cel) _ _ _ _ _ _ _ _ _ _ _ _ _ _ _ _ _ _ FN LZ FO FQ M;replace M:=Mem.bxShut ((Mem.joinHeap (h:=(eG h2 k (⟨x2.count,⟨4,x2.value.items,x2.value.parts,x2.value.names,x2.value.cls,x2.value.levels,x2.value.code,x2.value.env⟩,x2.parts.set j ((i:Nat):Int)⟩:Cel))) M Bh).pull 1 rfl);replace M:=M.up [];refine Sq (Sb M [] 2 ?_);refine Ij M 1 (λ_=> .tuple #[]) (λ_=>[.bx (g) (Hp.toD (iD 5 (eG h2 k (⟨x2.count,⟨4,x2.value.items,x2.value.parts,x2.value.names,x2.value.cls,x2.value.levels,x2.value.code,x2.value.env⟩,x2.parts.set j ((i:Nat):Int)⟩:Cel)) y)) 28]) (λK Z hK=>by go_simp;go_at_call 103;exact M.heapCall (λF HF _=>vN 5 _ y g F _ HF hyr.out) (λw' M'=>hK (mA 0) w' M')) (λJ5 wv M=>Sz (aO (fI ?_)))
  refine vQ results46 ?_;rw[aN ha0,aU,hy.out];exact⟨rfl,Mem.toHB (M.sel [0] dQ)⟩
 ·rw[tU];replace tU:=aa tU;have han:¬0<=a:=sq;refine bd (dV (ae (Sq (Sh ((M.bl 1 rfl).mid g_) M [] 7 (Sz ?_)))));refine rE (ι:=Option Addr × Nat) M [72,73,74,75,76,77,78,79,80,81,82] (λfu=>match fu with|(Ar,cr)=>[]) (λfu=>match fu with|(Ar,cr)=>True) (λfu=>match fu with|(Ar,cr)=>[.ow (.sl (nf.map .s)) 25 [.slice Ar nf.length cr],.bk (gd) 43 (IP++([.int .i64 x2.count,.int .i64 4,.slice Wn x2.value.items.length WI,.slice Wp x2.value.parts.length WK,.slice Ar nf.length cr,.slice Wm x2.value.cls.length WH,.slice Wo x2.value.levels.length WJ,.int .i64 x2.value.code,.int .i64 x2.value.env,.slice Wq x2.parts.length TH]++xC)),.ow (.sl (x2.value.items.map Item.toD)) 35 [.slice Wn x2.value.items.length WI],.ow (.sl (x2.value.parts.map Vec.toD)) 36 [.slice Wp x2.value.parts.length WK],.ow (.sl (x2.value.cls.map .s)) 25 [.slice Wm x2.value.cls.length WH],.ow (.sl (x2.value.levels.map .s)) 25 [.slice Wo x2.value.levels.length WJ],.ow (.sl (x2.parts.map (.i .i64))) 26 [.slice Wq x2.parts.length TH],.oa ((h2.cells.map Cel.toD).take k) 43 cab,.oa ((h2.cells.map Cel.toD).drop (k+1)) 43 cbb,.ow (.sl (h2.names.map .s)) 25 [.slice Anb h2.names.length cnb],.ow (.sl (h2.slots.map (.i .i64))) 26 [.slice Akb h2.slots.length csb],.bk (g) 28 [.slice (some ⟨gd,0,none⟩) h2.cells.length chb,.slice Anb h2.names.length cnb,.slice Akb h2.slots.length csb,h2.copies]]) (λK2 vk=>?_) ?_
  rotate_left
  ·rintro⟨Ar,cr⟩ zf2 W2 XM M;try dsimp only at XM M ⊢
   refine ovx ?_;refine dV (Sq (Sh ((M.bl 1 rfl).mid g_) M [] 6 ?_));refine Sa M (λJ6 wv M=>?_);replace M:=M.up [7];have M:=M.int (t:=3) (n:=((i:Nat):Int)) wfi;replace M:=M.up [2,1,2];refine nQ M rD (λJ7 wv M=>Sw ?_);refine Sb M [] 2 ?_;replace M:=M.up [3];refine Sm M g_ (λwv M=>Sz (Sg ?_));refine Sh ((M.bl 0 rfl).mid g_) M [] 7 ?_;refine Sa M (λJ8 wv M=>?_);replace M:=M.up [4];have M:=M.str (t:=9) (s:=t) ht.out;replace M:=M.up [2,1,2];refine nQ M jm (λJ9 wv M=>Sw ?_);refine Sb M [] 3 ?_;replace M:=M.up [2];refine Sm M g_ (λwv M=>Sy ?_);refine rn0 results46 ?_;have e1:List.map D.s nf++[D.s t]=List.map D.s (nf++[t]):=dR;have e2:List.map (D.i .i64) x2.parts++[D.i .i64 ((i:Nat):Int)]=List.map (D.i .i64) (x2.parts++[((i:Nat):Int)]):=dR;rw[e1,e2]at M;replace M:=M.up [10,10,5,10,10,6,10,10,8];replace M:=pw _ _ _ _ (⟨x2.count,⟨4,x2.value.items,x2.value.parts,nf++[t],x2.value.cls,x2.value.levels,x2.value.code,x2.value.env⟩,x2.parts++[((i:Nat):Int)]⟩:Cel) _ _ _ _ _ _ _ _ _ _ _ _ _ _ _ _ _ _ FN LZ FO FQ M;replace M:=M.up [5,5,5,3];replace M:=Mem.bxShut ((Mem.joinHeap (h:=(eG h2 k (⟨x2.count,⟨4,x2.value.items,x2.value.parts,nf++[t],x2.value.cls,x2.value.levels,x2.value.code,x2.value.env⟩,x2.parts++[((i:Nat):Int)]⟩:Cel))) M Bh).pull 1 rfl);replace M:=M.up [];rw[aH han,qb,HNF.out];exact⟨rfl,Mem.toHB (M.sel [0] dQ)⟩
  refine lW (λDN=>?_) (λDN=>?_)
  ·rw[DN];replace DN:=aa DN;have abo:nf=List.replicate x2.parts.length []:=by have z:=DN.out;simp at z;rw[<-HNF.out,gA,aN z]
   refine Sg (Sh ((M.bl 1 rfl).mid g_) M [] 6 ?_);refine Ij M 0 (λx=> .slice (some ⟨x.b,0,none⟩) x2.parts.length x2.parts.length) (λx=>[.ow (.sl ((List.replicate x2.parts.length ([]:Str)).map D.s)) 25 [.slice (some ⟨x.b,0,none⟩) x2.parts.length x2.parts.length]]) (λK Z hK=>by have DJ:=xx wv;have DK:=M.madeS (n:=x2.parts.length) eb;go_simp;exact hK (mA wv.heap.size) _ DK) (λmO wv M=>?_)
   refine Sb M [] 3 ?_;replace M:=M.up [2];refine Sm M g_ (λwv M=>Sy (dV ?_));exact vk (((some ⟨mO.b,0,none⟩)),(x2.parts.length)) _ _ dU (bO) (by(try dsimp only);rw[abo,List.length_replicate];exact M.sel [1,0,3,4,5,6,7,8,9,10,11,12] dQ)
  ·rw[DN];replace DN:=aa DN;have abn:nf=x2.value.names:=by have z:=DN.out;simp at z;rw[<-HNF.out,gA,aH z]
   refine bd (dV ?_);exact vk ((WS),(Y2)) _ _ dU (bO) (by(try dsimp only);rw[abn];exact M.sel [0,1,2,3,4,5,6,7,8,9,10,11] dQ)
theorem gQ {B:Nat} {k a:Int} {nm fr:Str} {cs:List Value} (h:rep w B (Hop.toD ⟨k,nm,fr,a,v⟩) cs):∃(Ai:Option Addr) (ci:Nat) (Ap:Option Addr) (cp:Nat) (An:Option Addr) (cn:Nat) (Ac:Option Addr) (cc:Nat) (Al:Option Addr) (cl:Nat),
 cs=[.int .i64 k,sv nm,sv fr,.int .i64 a,.int .i64 v.kind,.slice Ai v.items.length ci,.slice Ap v.parts.length cp,.slice An v.names.length cn,.slice Ac v.cls.length cc,.slice Al v.levels.length cl,.int .i64 v.code,.int .i64 v.env]/\nm.length<=maxLen/\fr.length<=maxLen/\(Lit.int .i64 a).wf=true/\
 rep w B v.toD [v.kind,.slice Ai v.items.length ci,.slice Ap v.parts.length cp,.slice An v.names.length cn,.slice Ac v.cls.length cc,.slice Al v.levels.length cl,v.code,v.env]:=by
 obtain⟨Ai,ni,ci,Ap,np,cp,An,nn,cn,Ac,nc,cc,Al,nl,cl,rfl,-,w1,w2,w3,hr⟩:=lQ h;obtain⟨_,_,_,_,_,_,_,_,_,_,he,-⟩:=d_ hr;simp only[bF,bG,dy,cO]at he;obtain⟨⟨rfl,rfl,rfl⟩,⟨rfl,rfl,rfl⟩,⟨rfl,rfl,rfl⟩,⟨rfl,rfl,rfl⟩,⟨rfl,rfl,rfl⟩⟩:=he;exact⟨Ai,ci,Ap,cp,An,cn,Ac,cc,Al,cl,rfl,w1,w2,w3,hr⟩
theorem Rl:∀f:Nat,ab1 40 f
 |0=>λh v g F B cs w _ _ _ _ jV=>by rw[rX]at jV;exact jV.elim
 |f+1=>ab2 f (Rl f)
theorem L6 {f:Nat} {args:Array Value} {Ψ:Ending->World->Prop} (hc:Calls prog f args w (gM h.toD 28 w)) (M:Mem prog w0 X w R) (hK:∀(x:Gh) w',Mem prog w0 X w' (.ow h.toD 28 [.slice (x.A 1) h.cells.length (x.C 1),.slice (x.A 2) h.names.length (x.C 2),.slice (x.A 3) h.slots.length (x.C 3),h.copies]::R)->Ψ (.returned (.agg #[.slice (x.A 1) h.cells.length (x.C 1),.slice (x.A 2) h.names.length (x.C 2),.slice (x.A 3) h.slots.length (x.C 3),h.copies])) w'):Calls prog f args w Ψ:=
 hc.mono λe w' hn=>by obtain⟨cs,rfl,M'⟩:=M.newSt hn;obtain⟨Ah,ch,An,cn,Ak,ck,rfl,-⟩:=gV (M'.rp 0 rfl);exact hK (Ow [(none,0),(Ah,ch),(An,cn),(Ak,ck)]) w' M'
theorem Td (h:Hp) (c:Cel):(gH h c).1.cells.length<=h.cells.length+1/\h.cells.length<=(gH h c).1.cells.length:=by unfold gH;cases gy h.cells 0<;>simp
theorem V2 {y:Vec} (hy:y∈v.parts):szD y.toD<=szD v.toD:=by have h1:=go v;have h2:∀(l:List Vec),y∈l->szD y.toD<=gv (l.map Vec.toD):=Gg;have h3:=h2 v.parts hy;rw[h1];simp only[szD];omega
theorem VH:∀(f d:Nat) (h:Hp) (v:Vec),okD d v=true->d<f->h.cells.length+41 ^ f<=1073741824->szD v.toD<=100000000000->rX f h v/\(fL f h v).1.cells.length<=h.cells.length+41 ^ f
 |0,d,h,v,_,hf,_,_=>by omega
 |f+1,d,h,v,hv,hf,hl,hz=>by
  have hp:=n7 hv;have ahL:41 ^ (f+1)=41 ^ f*41:=Nat.pow_succ 41 f;have hpos:0<41 ^ f:=Nat.pow_pos dP;have iU:∀(l:List Vec) (s:Hp × List Int),(∀p∈l,∃d',d'<f/\okD d' p=true/\szD p.toD<=100000000000)->s.1.cells.length+l.length*41 ^ f<=1073741824->Ba (rX f) (fL f) s l/\(l.foldl (js (fL f)) s).1.cells.length<=s.1.cells.length+l.length*41 ^ f:=by
   intro l
   induction l with
   |nil=>intro s _ _;exact⟨bO,by simp⟩
   |cons p t ih=>
    intro s hl hC;obtain⟨d',hd',hk,hzp⟩:=hl p aT;have e1:(p::t).length*41 ^ f=t.length*41 ^ f+41 ^ f:=by rw[bU,Nat.succ_mul]
    rw[e1]at hC ⊢;obtain⟨r1,r2⟩:=VH f d' s.1 p hk hd' dP hzp;have r2':(js (fL f) s p).1.cells.length<=s.1.cells.length+41 ^ f:=r2;obtain⟨s1,s2⟩:=ih (js (fL f) s p) (λq hq=>hl q (aP _ hq)) dP;exact⟨⟨r1,s1⟩,by rw[bC];omega⟩
  have aho:v.parts.length*41 ^ f<=40*41 ^ f:=dd _ hp.2;obtain⟨s1,s2⟩:=iU v.parts (h,[]) (λp Mb=>by obtain⟨d',e,hk⟩:=hp.1 p Mb;exact⟨d',by omega,hk,by have:=V2 Mb;omega⟩) (by show h.cells.length+_<=_;omega)
  have s2':(v.parts.foldl (js (fL f)) (h,[])).1.cells.length<=h.cells.length+v.parts.length*41 ^ f:=s2;have htl:=(Td (v.parts.foldl (js (fL f)) (h,[])).1 ⟨1,noParts v,(v.parts.foldl (js (fL f)) (h,[])).2⟩).1;rw[rX,fL];exact⟨⟨s1,by omega,hz,by omega⟩,by omega⟩
theorem SA {p:Int} (hp:inR h p=true):LessP h (incS h p)/\∀k,(celD (incS h p) k).count=if k=p then (celD h p).count+1 else (celD h k).count:=by
 obtain⟨i,x,rfl,hil,hx,ld⟩:=kU hp;unfold incS;rw[aU];refine⟨qN hil (.inl rfl),λk=>?_⟩;rw[fQ hil];split
 ·rfl
 ·rfl
theorem US:∀(l:List Int) (h:Hp) (U:Nat),(∀p∈l,inR h p=true)->(∀k,-1152921504606846976<=(celD h k).count/\(celD h k).count+(U:Int)<=1152921504606846976)->l.length<=U->
 allOK incOK incS h l/\LessP h (l.foldl incS h)/\(∀k,(celD (l.foldl incS h) k).parts=(celD h k).parts)
 |[],h,U,_,_,_=>⟨bO,LessP.refl,λ_=>rfl⟩
 |p::t,h,U,hr,hb,hU=>by
  rw[bU]at hU;have hp:=hr p aT;obtain⟨l1,c1⟩:=SA hp;have hp1:∀k,(celD (incS h p) k).parts=(celD h k).parts:=by
   intro k;obtain⟨i,x,rfl,hil,hx,ld⟩:=kU hp;unfold incS;rw[aU,fQ hil];split
   ·rename_i e;subst e;rfl
   ·rfl
  obtain⟨s1,s2,s3⟩:=US t (incS h p) (U - 1) (λq hq=>by rw[DU l1];exact hr q (aP _ hq)) (λk=>by have h1:=hb k;have h2:=hb p;rw[c1 k];split<;>omega) dP
  exact⟨⟨⟨hp,(hb p).1,by have:=(hb p).2;omega⟩,s1⟩,l1.trans s2,λk=>by rw[bC,s3 k,hp1 k]⟩
def qA (n q:Nat):List Nat:=(List.range n).filter λk=> !decide (k=q)
def ab0 (k:Nat):Int:=((k+1:Nat):Int)
theorem Nv (n q:Nat):(qA n q).length<=n:=by have:=List.length_filter_le (λk=> !decide (k=q)) (List.range n);rw[List.length_range]at this;exact this
theorem Yg (h:k∈qA n q):k<n:=by unfold qA at h;rw[cS,c_]at h;exact h.1
theorem JK (h:¬j=q):qA (j+1) q=qA j q++[j]:=by unfold qA;rw[List.range_succ,List.filter_append];simp [h]
theorem JI (h:j=q):qA (j+1) q=qA j q:=by unfold qA;rw[List.range_succ,List.filter_append];simp [h]
def Xk (ps:List Vec) (ns cls:List Str) (q:Nat):Vec:={(gZ ⟨4,[],jo ps (qA ps.length q),jo ns (qA ps.length q),[],[],0,0⟩) with cls:=cls}
theorem PH (ps:List Vec) (ns cls:List Str) (q pb pc:Nat) (hq:q<=40) (cv:List Value) (w:World) (gF:rep w w.heap.size (Vec.toD ⟨4,([]:List Item),ps,ns,cls,([]:List Str),0,0⟩) cv) (OA:pb<w.heap.size) (Pw:w.cell? ⟨pb,0,none⟩=some (.int .i64 ((q+1:Nat):Int))) (mD:ps.length<=40) (hnm:ns=[]\/ns.length=ps.length) (K9:cls.length<=40) (kD:∀y∈ps,okD 3 y=true/\szD y.toD<=500000000000):
 Calls prog 119 #[av cv,.slice (some ⟨pb,0,none⟩) 1 pc] w (gM (Xk ps ns cls q).toD 38 w):=by
 have kQ:=aa (show lenV ⟨4,([]:List Item),ps,ns,cls,([]:List Str),0,0⟩=ps.length by simp [lenV]);have Cd:=aa kD;have RC:=aa hnm;obtain⟨pv,hpv⟩:∃a,(gZ ⟨4,[],jo ps (qA ps.length q),jo ns (qA ps.length q),[],[],0,0⟩:Vec)=a:=⟨_,rfl⟩;replace hpv:=aa hpv;obtain⟨Ai,ci,Ap,cp,An,cn,Ac,cc,Al,cl,rfl,wk,ri,rp,rn,rc,rl,wc,we⟩:=d_ gF;simp only[bf]at gF;obtain⟨_,_,_,he,-,-,XZ,X7⟩:=(ls _ _ _ _).1 rc;injection he with he;injection he with e1 e2 e3;subst e1 e2 e3
 clear kD hnm;have M:Mem prog w [] w []:=Mem.start;go_enter func119,ntmps119;refine Sq (Sa M (λJ1 wv M=>?_));refine Sa M (λJ2 wv M=>Sz (Sq ?_));refine Se M underlying26 (λJ3 wv M=>?_);refine Sb M [] 1 (Sz (ae ?_));refine Ra M [] (aJ ?_);refine fy (ι:=Nat × Option Addr × Nat × Nat) [7,8,11,12,13,14,15,16,17,18,19,20,21,22,23,24,25,26,27,28,29,30,31,32,33,34,35,36] (λfu=>match fu with|(j,Aq,nk,cq)=>[(5,.slice Aq nk cq),(6,.int .i64 ((j+1:Nat)))]) (λfu=>match fu with|(j,Aq,nk,cq)=>j<=ps.length/\nk=(qA j q).length) (λfu=>match fu with|(j,Aq,nk,cq)=>[.ow (.sl (((qA j q).map ab0).map (D.i .i64))) 26 [.slice Aq nk cq],.bk (J2.b) 38 [.int .i64 0,(),(),(),(),(),.int .i64 0,.int .i64 0],.bk (J1.b) 38 [.int .i64 4,.slice Ai 0 ci,.slice Ap ps.length cp,.slice An ns.length cn,.slice Ac cls.length cc,.slice Al 0 cl,.int .i64 0,.int .i64 0]]) (λfu=>match fu with|(j,Aq,nk,cq)=>ps.length - j) (0,((some ⟨J3.b,0,none⟩)),0,(0)) (⟨by omega,rfl⟩) (by dsimp only;exact M.sel [0,1,2] dQ) ?_;rintro⟨j,Aq,nk,cq⟩ Mf W1 K1 h1 M rH;try dsimp only at h1 M ⊢
 refine uM ?_;obtain⟨hjm,Ty⟩:=h1;replace Ty:=aa Ty;have ajL:nk<=j:=by rw[Ty.out];exact Nv j q
 refine ae (Sq (Sb M [2] 2 ?_));refine Sc (aF (lI ⟨4,([]:List Item),ps,ns,cls,([]:List Str),0,0⟩ _ _ (M.arg gF) dS) ?_);rintro e w' ⟨rfl,hb⟩;rw[kQ.out];replace M:=M.next hb;refine Sp ?_;refine Sb M [] 1 (Sz ?_);refine lW (λhlt=>?_) (λhlt=>?_)
 ·rw[hlt];replace hlt:=aa hlt;have hlj:j<ps.length:=eX;refine bd (dV (ae (aJ (Ra M [] (ae ?_)))));refine Ra M [] (aJ ?_);refine aZ 2 ?_;refine ez (ae (Ra M [] ?_));refine Hx (ae (aJ (Sg ?_)));refine Sb M [] 5 ?_;refine Sf (show w'.cell? ⟨pb,0,none⟩=some (.int .i64 (q+1:Nat)) from (M.bel.cell OA).trans Pw) ?_;refine Sb M [] 4 (Sy (fA (dV ?_)));refine Rb M [] (dV (ez (ae ?_)));refine Ra M [] ?_;refine cf (bo (es (es (fT (dV ?_)))));refine Ra M [] ?_;refine lW (λzL=>?_) (λzL=>?_)
  ·rw[zL];replace zL:=aa zL;have XQ:=aa (show ¬j=q by have z:=zL.out;simp at z;omega);refine Sg (Sb M [] 2 ?_);refine Sa M (λJ5 wv M=>?_);replace M:=M.up [1];have M:=M.int (t:=3) (n:=ab0 j) (by unfold ab0;exact kP.2 fP);replace M:=M.up [2,1,2];refine nQ M rD (λJ6 wv M=>Sw ?_);refine Sb M [] 1 (Sy (fA (dV ?_)));refine Rb M [] (dV ?_);exact rH (j+1,((some ⟨J6.b,0,none⟩)),((nk+1)),(J6.c)) _ _ dU (⟨by omega,by have z:=Ty.out;rw[JK XQ.out,aY,<-z];rfl⟩) (by(try dsimp only);omega) (by(try dsimp only);rw[JK XQ.out,aI,aI];exact M.sel [0,2,3] dQ)
  ·rw[zL];replace zL:=aa zL;have XQ:=aa (show j=q by have z:=zL.out;simp at z;omega);refine bd (fA (dV (Rb M [] (dV ?_))));exact rH (j+1,(Aq),(nk),(cq)) _ _ dU (⟨by omega,by have z:=Ty.out;rw[JI XQ.out];exact z⟩) (by(try dsimp only);omega) (by(try dsimp only);rw[JI XQ.out];exact M.sel [0,1,2] dQ)
 ·rw[hlt];replace hlt:=aa hlt;obtain rfl:j=ps.length:=eX;have ahB:=Ty.out;subst ahB;refine bo (es (es (fT (dV (Sq (Sb M [2] 2 ?_))))));refine Sc (tI (v:=pv) (by rw[<-hpv.out];exact Yh ps ns cls (qA ps.length q) (λ_ h=>Yg h) (by have:=Nv ps.length q;omega) _ _ _ _ (M.arg gF) (M.rp 0 rfl) mD RC.out Cd.out) M λJ7 wv M=>Sp ?_);refine Sa M (λJ8 wv M=>?_);refine Ss M 0 (λwv M=>Sz ?_);obtain⟨-,-,-,-,-,-,-,-,-,-,-,wkp,-,-,-,-,-,To,wep⟩:=d_ (M.rp 1 rfl);refine Sq (Se M underlying25 (λJ9 wv M=>?_));refine Sb M [5] 2 ?_;refine AF (f:=D.s) M jm (XZ.below M.bel) (λy hy w'=>by rw[own];exact⟨rfl,rfl,X7 y hy⟩) gW iK (λmO wv M=>Sw ?_);refine Sb M [] 1 ?_;refine Ss M 1 (λwv M=>Sz (Sq ?_));refine Sb M [1] 1 ?_;refine Ss M 4 (λwv M=>Sz (aO ?_));refine kN results119 M 4 ?_;replace M:=M.up [2];replace M:=M.openVecL;rw[show Xk ps ns cls q={pv with cls:=cls} by rw[Xk,hpv.out]];exact(Mem.joinVec (v:={pv with cls:=cls}) (M.sel [0,1,2,5,4] dQ) wkp To wep).retSt
end Go.Proofs.YtekcpadlmfaihaaGreat
