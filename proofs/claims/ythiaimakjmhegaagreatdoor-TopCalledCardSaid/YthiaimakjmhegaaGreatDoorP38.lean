/- Parts of the proof. No statement is proved here. -/
import Derived.Test.YthiaimakjmhegaaGreatDoorP12
set_option linter.unusedVariables false
set_option linter.unusedSimpArgs false
set_option maxHeartbeats 16000000
set_option maxRecDepth 20000
namespace Go.Ab
def nr:List AV→List AV→Prop
 |[],[]=>True
 |a::l,b::m=>Ent a b∧nr l m
 |_,_=>False
theorem nr.all:∀{us vs:List AV},nr us vs→us.length=vs.length∧∀(i:Nat) (u v:AV),us[i]? = some u→vs[i]? = some v→Ent u v
 |[],[],_=>⟨rfl,fun i u v h=>by cases h⟩
 | a :: l, b :: m, h => by
   have ih:=nr.all h.2;refine⟨congrArg (·+1) ih.1,fun i u v hu hv=>?_⟩
   match i,hu,hv with
   |0,hu,hv=>cases hu;cases hv;exact h.1
   |i+1,hu,hv=>exact ih.2 i u v hu hv
theorem Ent.aggR {us vs:List AV} (h:nr us vs):Ent (.agg us) (.agg vs):=Ent.agg h.all.1 h.all.2
def tV:List (List AV)→List (List AV)→Prop
 |[],[]=>True
 |a::l,b::m=>nr a b∧tV l m
 |_,_=>False
theorem tV.all:∀{us vs:List (List AV)},tV us vs→us.length=vs.length∧∀(i:Nat) (u v:List AV),us[i]? = some u→vs[i]? = some v→nr u v
 |[],[],_=>⟨rfl,fun i u v h=>by cases h⟩
 | a :: l, b :: m, h => by
   have ih:=tV.all h.2;refine⟨congrArg (·+1) ih.1,fun i u v hu hv=>?_⟩
   match i,hu,hv with
   |0,hu,hv=>cases hu;cases hv;exact h.1
   |i+1,hu,hv=>exact ih.2 i u v hu hv
theorem Ent.slR {sz:Nat} {es es':List (List AV)} {t:Tok} (h:tV es es') (hz:∀e∈es',e.length=sz):Ent (.sl sz es t) (.sl sz es' .no):=fun M x hx=>by
 have hl:=h.all.1;cases hx with
 | sl _ _ _ b off cap f hz2 hm hr hc ht =>
   rw[hl] at hc ⊢;refine .sl sz es' .no b off cap f hz (fun i j hi hj=>hm i j oM hj) (fun i j e' v h1 h2=>?_) hc trivial;have hi:i<es.length:=by
    have:=(zAb.1 h1).1;omega
   have hR:=h.all.2 i es[i] e' (zA1 hi) h1;have hj:j<es[i].length:=by
    have:=(zAb.1 h2).1;have:=hR.all.1;omega
   exact hR.all.2 j es[i][j] v (zA1 hj) h2 _ _ (hr i j es[i] _ (zA1 hi) (zA1 hj))
 | slz =>
   have:es'=[]:=zAr hl.symm;subst this;exact .slz sz .no trivial
 | slzz _ a cap =>
   have:es'=[]:=zAr hl.symm;subst this;exact .slzz sz a cap
theorem Ent.slN {sz:Nat} {es:List (List AV)} {t:Tok}:Ent (.sl sz es t) (.sl sz es .no):=fun M x hx=>by
 cases hx with
 |sl _ _ _ b off cap f hz2 hm hr hc ht=>exact .sl sz es .no b off cap f hz2 hm hr hc trivial
 |slz=>exact .slz sz .no trivial
 |slzz _ a cap=>exact .slzz sz a cap
theorem PCall.argR {P:Program} {f:FuncId} {us vs:List AV} {r:AV} (he:nr us vs) (h:PCall P f vs r):PCall P f us r:=by
 have hl:=he.all.1;refine⟨h.1,fun M W xs hm ha=>h.2 M W xs hm ⟨by rw[ha.1,hl],fun i c hi=>?_⟩⟩;have hlt:i<us.length:=by rw[hl];exact(zAb.1 hi).1
 exact he.all.2 i us[i] c (zA1 hlt) hi _ _ (ha.2 i _ (zA1 hlt))
end Go.Ab
