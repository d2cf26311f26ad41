/- Words for the steps of a heap, of the specification. -/
import Derived.Test.YtekcpadlmfaihaaGreatVNf
import Derived.Test.YtekcpadlmfaihaaGreatVHh
import Derived.Test.YtekcpadlmfaihaaGreatVLi
import Derived.Test.YtekcpadlmfaihaaGreatVHf
import Derived.Test.YtekcpadlmfaihaaGreatVLd
import Derived.Test.YtekcpadlmfaihaaGreatVLg
namespace Go.Proofs.YtekcpadlmfaihaaGreat
open Go.RowKit Proofs.Tryz
set_option linter.unusedSimpArgs false
set_option linter.unusedVariables false
variable {R:List As} {X:List Nat} {k:Value} {w w0:World}
theorem Ee:∀f:Nat,Vf f
 |0=>λh v g F B cs w _ _ _ _ hok=>by rw[rX]at hok;exact hok.elim
 |f+1=>SH f (Ee f)
theorem Mem.openHeapL {h:Hp} {A1 A2 A3:Option Addr} {n1 c1 n2 c2 n3 c3:Nat} (M:Mem prog w0 X w (.ow h.toD 28 [.slice A1 n1 c1,.slice A2 n2 c2,.slice A3 n3 c3,k]::R)):
 Mem prog w0 X w (.ow (.sl (h.cells.map Cel.toD)) 24 [.slice A1 n1 c1]:: .ow (.sl (h.names.map .s)) 25 [.slice A2 n2 c2]:: .ow (.sl (h.slots.map (.i .i64))) 26 [.slice A3 n3 c3]::R):=by
 obtain⟨_,_,_,_,_,_,he,-,M'⟩:=M.openHeap;simp only[bF,bG,cO]at he;obtain⟨⟨rfl,rfl,rfl⟩,⟨rfl,rfl,rfl⟩,⟨rfl,rfl,rfl⟩,-⟩:=he;exact M'
theorem Mem.kindAt {g n c k:Nat} {l:List Cel} {x:Cel} (M:Mem prog w0 X w (.ow (.sl (l.map Cel.toD)) 24 [.slice (some ⟨g,0,none⟩) n c]::R)) (hk:l[k]?=some x):w.cell? ⟨g,k*10+1,none⟩=some (.int .i64 x.value.kind):=by
 have hr:=M.rp 0 rfl;have hl:=(ef hr).1;rw[au]at hl;obtain⟨b,off,y,_,_,_,_,_,_,_,_,_,_,_,_,h1,_,h2,_,_,_,_,h3,_⟩:=CW hr (k:=k) sa;injection h1 with h1;injection h1 with e1 e2 e3;subst e1 e2;rw[hk]at h2;injection h2 with h2;subst h2
 rwa [bI]at h3
theorem Kz {B:Nat} {v:Vec}{s1 s2 s3 s4 s5 c e:Value} (h:rep w B v.toD [k,s1,s2,s3,s4,s5,c,e]):rep w B (.sl (v.names.map .s)) [s3]:=by obtain⟨_,_,_,_,_,_,_,_,_,_,he,-,-,-,rn,-⟩:=d_ h;simp only[bF,cO]at he;obtain⟨-,-,-,rfl,-⟩:=he;exact rn
end Go.Proofs.YtekcpadlmfaihaaGreat
