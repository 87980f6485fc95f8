/-
  The reference's BlamedIn, walked.
-/
import Derived.Test.YthgmphbkkojaoaaGreatQThere3
import Derived.Test.YthgmphbkkojaoaaGreatQRepair
namespace Go.Proofs.YthgmphbkkojaoaaGreat
set_option linter.unusedSectionVars false
variable [Zn]
open Go.RowKit
theorem zQT{n o s:Nat}{ls:List Sh}(hR:zBe n o s ls)(hE:zCF n o s ls=0):zAe n o s (zEs n o s ls)=0:=by
 obtain ⟨c,hc,hj,h1,h2⟩:=zQu hR hE
 rw[h1]
 exact zHT (zHR hR hc).1 hj
theorem zNQ{b:List Ver}{ps:List Pr}{v:Int}(h:zBI (b,ps) v=0):∃(k n o s:Nat) (pr:List Int),v=(k:Int)∧b[k]?=some (pr,(n:Int),(o:Int),(s:Int))∧zAe n o s (zBa (b,ps) v)=0∧zAx n o s=0:=by
 have hr:=zBr h
 obtain ⟨hm,h0,h1⟩:=zCo hr
 obtain ⟨k,rfl⟩:=Int.eq_ofNat_of_zero_le h0
 have hk:k<b.length:=by simpa using h1
 have hg:b[k]?=some b[k]:=List.getElem?_eq_getElem hk
 have hpl:zAO b (k:Int)=b[k].2:=by unfold zAO;simp[hg]
 have hE:zCF b[k].2.1 b[k].2.2.1 b[k].2.2.2 (zAS (k:Int) ps)=0:=by
  have:zBI (b,ps) (k:Int)=zCF b[k].2.1 b[k].2.2.1 b[k].2.2.2 (zAS (k:Int) ps):=by unfold zBI;rw[if_neg (by simpa using hr)];rw[show zAO (b,ps).1 (k:Int)=b[k].2 from hpl]
  rw[←this];exact h
 have hB:zBa (b,ps) (k:Int)=zEs b[k].2.1 b[k].2.2.1 b[k].2.2.2 (zAS (k:Int) ps):=by unfold zBa;rw[if_neg (by simpa using hr)];rw[show zAO (b,ps).1 (k:Int)=b[k].2 from hpl]
 have hp:=(zBj.1 (zAU.1 hm).1).plan k _ hg
 obtain ⟨n,o,s,e1,e2,e3⟩:=zCq hp
 have hc:zAb n o s (zAS (k:Int) ps)=0:=by
  rw[e1,e2,e3] at hE
  by_cases hc:zAb n o s (zAS (k:Int) ps)=0
  ·exact hc
  ·rw[zEi hc] at hE;exact absurd hE hc
 rw[e1,e2,e3] at hE hB hp
 refine ⟨k,n,o,s,b[k].1,rfl,?_,?_,hp⟩
 ·rw[hg,←e1,←e2,←e3]
 ·rw[hB]
  exact zQT (zGo.1 hc) hE
theorem zQh{n o s m:Nat}{data:List Int}(h:zAe n o s data=0)(hm:m<o)(l:List Int):zCs (zA4 n o s data) ((m:Int),l)=zCm (m:Int) (m:Int) l (zAY n data (zAM n s) m).2:=by
 rw[zBw h]
 unfold zCs
 simp[zAV,hm,zAY]
end Go.Proofs.YthgmphbkkojaoaaGreat
