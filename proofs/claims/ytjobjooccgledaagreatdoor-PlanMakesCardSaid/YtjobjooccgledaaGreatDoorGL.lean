/- Package-level arrays of strings, as a row's condition lays them. Conditions: none. -/
import Derived.Test.YtjobjooccgledaaGreatDoorA4
import Derived.OpenShut
import Derived.ChangeArms
import Derived.FnData
namespace Go.Proofs.YtjobjooccgledaaGreatDoor.Ghost
open Go
theorem AD3 {w:World} {b o:Nat} {v:Value} (h:w.cell? ⟨b,o,none⟩=some v):b<w.heap.size:=by
  rcases Nat.lt_or_ge b w.heap.size with hb | hb
  · exact hb
  · unfold World.cell? at h
    simp only [Array.getElem?_eq_none hb] at h
    cases h
theorem AA3 {H:Type} {enc:TypeId×Value→H} {P:Program} {W:World} {n:String} {g:Nat} {t e:TypeId} {cs:Array Value} {base:Nat} {spare:Nat→Bool} {held:Bool} {fuel:Nat} {l:List ByteArray} {d:DataW H} {p:List MemPlace} (hg:P.globalNamed n=some g)
    (hu:P.underlying t=some (.array l.length e)) (he:P.underlying e=some .string) (hc:P.cellsOf e=1) (hct:P.cellsOf t=l.length) (hl:0<l.length) (hv:W.var? P n=some cs) (hd:DataW.trod enc P W base spare held fuel t cs.toList=some (d,p)) (hdd:d=.agg (l.map fun s=>.lit (.string s.data.toList))) :
    g<W.heap.size∧∃ cs':List Value,Zm (fun b=>b<W.heap.size) (fun _=>none) W (.arr l.length .str) l [] cs'∧W.rangeAt g 0 cs':=by
  obtain ⟨xs,m,_,hx,hlen,hn,hel⟩:=DataW.trod_array hu hd
  rw [hdd] at hx
  simp only [Prod.mk.injEq,DataW.agg.injEq] at hx
  have hcs:cs.toList.length=l.length:=by rw [hlen,hct]
  have hr:W.rangeAt g 0 cs.toList:=fun j v hj=>by
    rw [Nat.zero_add,World.var?_cell hg hv j,← Array.getElem?_toList]
    exact hj
  refine ⟨AD3 (hr 0 _ (List.getElem?_eq_getElem (by omega))),cs.toList,?_,hr⟩
  simp only [Zm]
  refine ⟨trivial,by rw [hcs]; simp [Zj],fun i hi => ?_⟩
  have hxi:=hel i hi
  rw [hc] at hxi
  have hi':i<xs.length:=by omega
  rw [List.getElem?_eq_getElem hi'] at hxi
  obtain ⟨s,e1,e2,_⟩:=DataW.trod_string he hxi
  have e3:(l.map fun s=>(DataW.lit (.string s.data.toList):DataW H))[i]?=(xs.map (·.1))[i]?:=by rw [hx.1]
  rw [List.getElem?_map,List.getElem?_map,List.getElem?_eq_getElem hi,List.getElem?_eq_getElem hi',Option.map_some,Option.map_some,e2] at e3
  simp only [Option.some.injEq,DataW.lit.injEq,Lit.string.injEq] at e3
  have e4:l[i]=s:=by
    generalize l[i]=a at e3
    obtain ⟨⟨a⟩⟩:=a
    obtain ⟨⟨b⟩⟩:=s
    have:a=b:=e3
    rw [this]
  have e5:List.getD l i (dft .str)=s:=by rw [List.getD_eq_getElem?_getD,List.getElem?_eq_getElem hi]; exact e4
  show List.take (Zj .str) (List.drop (i * Zj .str) cs.toList)=[.string (List.getD l i (dft .str))]
  rw [e5]
  exact e1
end Go.Proofs.YtjobjooccgledaaGreatDoor.Ghost
