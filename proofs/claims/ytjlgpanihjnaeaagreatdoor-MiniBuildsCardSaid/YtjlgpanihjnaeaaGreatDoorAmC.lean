/- A part of a proof. Its conditions: none. -/
import Derived.Test.YtjlgpanihjnaeaaGreatDoorAmE
import Derived.ProofKit
import Derived.Deep.Slices
import Derived.Carry
import Derived.Lib.LaidTab
import Derived.ChangeSame
import Derived.LaidOnce
import Derived.Lay
import Derived.Deep.DeepHandedRow
import Derived.Test.YtjlgpanihjnaeaaGreatDoorAmD
import Derived.Test.YtjlgpanihjnaeaaGreatDoorAmB
import Derived.Test.YtjlgpanihjnaeaaGreatDoorAmA
import Derived.Laws.Externs
import Derived.Laws.IdiomCopy
import Derived.Lib.Overlaps
import Derived.Lib.Walk
import Derived.WalkKit
import Derived.Shelf.RegionOpenPlain
set_option linter.all false
namespace Go.AM
open Go.RowKit
inductive AR (P : Program) (H : Heap) : TypeId → List Value → Prop where
  | bool (t : TypeId) (b : Bool) (ht : P.underlying t = some .bool) : AR P H t [.bool b]
  | int (t : TypeId) (k : IntKind) (n : Int) (ht : P.underlying t = some (.int k)) (hw : (Lit.int k n).wf = true) : AR P H t [.int k n]
  | float (t : TypeId) (k : FloatKind) (b : Nat) (ht : P.underlying t = some (.float k)) (hw : (Lit.float k b).wf = true) : AR P H t [.float k b]
  | string (t : TypeId) (s : ByteArray) (ht : P.underlying t = some .string) (hs : s.size ≤ maxLen) : AR P H t [.string s]
  | nil (t e : TypeId) (ht : P.underlying t = some (.slice e)) : AR P H t [.slice none 0 0]
  | slice (t e : TypeId) (x m : Nat) (cs : List Value) (ht : P.underlying t = some (.slice e)) (hx : H x = .cells cs e false) (hl : cs.length = m * P.cellsOf e) (hm : m ≤ maxLen)
      (he : ∀ i, i < m → AR P H e ((cs.drop (i * P.cellsOf e)).take (P.cellsOf e))) : AR P H t [.slice (some ⟨x, 0, none⟩) m m]
  | struct (t : TypeId) (fs : Array Field) (cs : List Value) (ht : P.underlying t = some (.struct fs)) (hl : cs.length = P.cellsOf t)
      (hf : ∀ (i : Nat) (f : Field), fs[i]? = some f → AR P H f.type ((cs.drop f.offset).take (P.cellsOf f.type))) : AR P H t cs
theorem AR.mono{P:Program}{H H':Heap}{t:TypeId}{cs:List Value}(h:AR P H t cs)(hle:∀x,H x≠.dead→H' x=H x):AR P H' t cs:=by
 induction h with
 | bool t b ht=>exact .bool t b ht
 | int t k n ht hw=>exact .int t k n ht hw
 | float t k b ht hw=>exact .float t k b ht hw
 | string t s ht hs=>exact .string t s ht hs
 | nil t e ht=>exact .nil t e ht
 | slice t e x m cs ht hx hl hm _ ih=>exact .slice t e x m cs ht (by rw[hle x (by rw[hx];intro e;cases e),hx]) hl hm ih
 | struct t fs cs ht hl _ ih=>exact .struct t fs cs ht hl ih
def lined(P:Program):Nat→List Field→Nat→Bool
 | at_,[],stop=>at_ == stop
 | at_,f::fs,stop=>f.offset == at_ && lined P (at_+P.cellsOf f.type) fs stop
def plainT(P:Program):Nat→TypeId→Bool
 | 0,_=>false
 | d+1,t=>match P.underlying t with
  | some .bool|some (.int _)|some (.float _)|some .string=>P.cellsOf t == 1
  | some (.slice e)=>P.cellsOf t == 1 && decide (P.cellsOf e≠0) && plainT P d e
  | some (.struct fs)=>lined P 0 fs.toList (P.cellsOf t) && fs.toList.all fun f=>plainT P d f.type
  | _=>false
structure Sofar(P:Program)(w:World)(ι:Inj)(C:Heap)(n:Nat):Prop where
 hr:HR P w.heap.size ι C w
 free:∀x,n≤x→ι x=none
 wf:WF n C
 ro:∀x t,ι x=some t→t.own=false
 pos:0<w.heap.size
structure More(ι:Inj)(C:Heap)(n:Nat)(κ:Inj)(C':Heap)(n':Nat):Prop where
 le:Inj.le ι κ
 heap:∀x,C x≠.dead→C' x=C x
 n:n≤n'
theorem More.refl(ι:Inj)(C:Heap)(n:Nat):More ι C n ι C n:=⟨Inj.le_refl ι,fun _ _=>rfl,Nat.le_refl _⟩
theorem More.trans{ι κ μ:Inj}{C C1 C2:Heap}{n n1 n2:Nat}(a:More ι C n κ C1 n1)(b:More κ C1 n1 μ C2 n2):More ι C n μ C2 n2 :=
 ⟨Inj.le_trans a.le b.le,fun x h=>by rw[b.heap x (by rw[a.heap x h];exact h),a.heap x h],Nat.le_trans a.n b.n⟩
section
variable {P:Program} {w:World}
theorem Sofar.addRO{ι:Inj}{C:Heap}{n:Nat}(h:Sofar P w ι C n){cs:List Value}{e:TypeId}{b o:Nat}(hb:b<w.heap.size)
  (hc:∀(i:Nat) (v:Value),cs[i]? = some v→∃v',w.cell? ⟨b,o+i,none⟩=some v'∧VR ι v v'∧one v=true) :
  Sofar P w (iset ι n ⟨b,o,false,0,0⟩) (hset C n (.cells cs e false)) (n+1)∧More ι C n (iset ι n ⟨b,o,false,0,0⟩) (hset C n (.cells cs e false)) (n+1):=by
 have hn:=h.free n (Nat.le_refl _)
 have hle:=iset_le (ι:=ι) ⟨b,o,false,0,0⟩ hn
 refine⟨⟨⟨fun x=>?_,fun x y t u hx hy ex ey ho hbl=>?_,fun x t e=>?_,Nat.le_refl _,fun g hg=>hle g _ (h.hr.gl g hg),fun x y t u cs' ty b ds ty' hx hy ex ey hbl=>?_⟩,fun x hx=>?_,fun x hx=>?_,fun x t e=>?_,h.pos⟩,⟨hle,fun x hx=>?_,Nat.le_succ n⟩⟩
 ·rw[hset_apply];split
  ·rename_i e;subst e
   refine⟨_,iset_same _ _ _,rfl,fun i v e=>?_,fun e=>by cases e⟩
   obtain⟨v',h1,h2,h3⟩:=hc i v e
   exact⟨v',h1,h2.mono hle,h3⟩
  ·exact(h.hr.obj x).carry hle fun _ _=>rfl
 ·exfalso
  by_cases e:x=n
  ·subst e;rw[iset_same]at ex;cases ex;cases ho
  ·rw[iset_other _ _ e]at ex
   rw[h.ro x t ex]at ho;cases ho
 ·by_cases e1:x=n
  ·subst e1;rw[iset_same]at e;cases e;exact⟨hb,(fun k=>by cases k),fun _=>hb⟩
  ·rw[iset_other _ _ e1]at e;exact h.hr.rng x t e
 ·by_cases e1:x=n
  ·subst e1;rw[hset_same]at hx;cases hx
  ·by_cases e2:y=n
   ·subst e2;rw[hset_same]at hy;cases hy
   ·rw[hset_other _ _ e1]at hx
    rw[hset_other _ _ e2]at hy
    rw[iset_other _ _ e1]at ex
    rw[iset_other _ _ e2]at ey
    exact h.hr.last x y t u cs' ty b ds ty' hx hy ex ey hbl
 ·rw[iset_other _ _ (by omega)];exact h.free x (by omega)
 ·rw[hset_other _ _ (by omega)];exact h.wf x (by omega)
 ·by_cases e1:x=n
  ·subst e1;rw[iset_same]at e;cases e;rfl
  ·rw[iset_other _ _ e1]at e;exact h.ro x t e
 ·by_cases e:x=n
  ·subst e;exact absurd (h.wf x (Nat.le_refl _)) hx
  ·exact hset_other _ _ e
theorem cells?_spec{base:Nat}{a:Addr}{m:Nat}{cs:List Value}(h:w.cells? base a m=some cs):cs.length=m∧∀i,i<m→w.cell? (a.add i)=cs[i]?:=by
 obtain⟨_,h1,h2⟩:=World.cells?_some h
 exact⟨h1,h2⟩
variable {H:Type} {enc:TypeId × Value→H}
def Opened(P:Program)(w:World)(ι:Inj)(C:Heap)(n:Nat)(t:TypeId)(cs:List Value):Prop :=
 ∃acs κ C' n',Sofar P w κ C' n'∧More ι C n κ C' n'∧VRs κ acs cs∧AR P C' t acs∧acs.length=P.cellsOf t∧acs.all one=true
theorem opened_flat{ι:Inj}{C:Heap}{n:Nat}{t:TypeId}{v:Value}(h:Sofar P w ι C n)(hf:still1 v=true)(hr:VR ι v v)(ha:AR P C t [v])(hc:(P.cellsOf t == 1)=true):Opened P w ι C n t [v]:=by
 refine⟨[v],ι,C,n,h,More.refl _ _ _,.cons hr (.nil ι),ha,?_,by simp[still1_one hf]⟩
 have:P.cellsOf t=1:=by simpa using hc
 simp[this]
theorem open_elems{e:TypeId}{a:Addr}{f:TypeId→List Value→Prop}{len:Nat}(hop:∀cs,f e cs→∀ι C n,Sofar P w ι C n→Opened P w ι C n e cs)
  (he:∀i,i<len→∃cs,w.cells? 0 (a.add (i*P.cellsOf e)) (P.cellsOf e)=some cs∧f e cs):∀m,m≤len→∀ι C n,Sofar P w ι C n →
  ∃(acs:List Value) (κ:Inj) (C':Heap) (n':Nat),Sofar P w κ C' n'∧More ι C n κ C' n'∧acs.length=m*P.cellsOf e∧(∀i,i<m→AR P C' e ((acs.drop (i*P.cellsOf e)).take (P.cellsOf e))) ∧
   ∀(i:Nat) (v:Value),acs[i]? = some v→∃v',w.cell? (a.add i)=some v'∧VR κ v v'∧one v=true:=by
 intro m
 induction m with
 | zero=>intro _ ι C n h;exact⟨[],ι,C,n,h,More.refl _ _ _,by simp,fun i hi=>by omega,fun i v e=>by simp at e⟩
 | succ m ih =>
  intro hm ι C n h
  obtain⟨acs,κ,C',n',h1,h2,h3,h4,h5⟩:=ih (by omega) ι C n h
  obtain⟨cs,hcs,hf⟩:=he m (by omega)
  obtain⟨bcs,μ,C'',n'',g1,g2,g3,g4,g5,g6⟩:=hop cs hf κ C' n' h1
  obtain⟨hlen,hcell⟩:=cells?_spec hcs
  refine⟨acs++bcs,μ,C'',n'',g1,h2.trans g2,by rw[List.length_append,h3,g5,Nat.succ_mul],fun i hi=>?_,fun i v hq=>?_⟩
  ·by_cases him:i<m
   ·have hle:i*P.cellsOf e+P.cellsOf e≤m*P.cellsOf e:=by rw[←Nat.succ_mul];exact Nat.mul_le_mul_right _ him
    rw[List.drop_append_of_le_length (by omega),List.take_append_of_le_length (by simp;omega)]
    exact(h4 i him).mono g2.heap
   ·have:i=m:=by omega
    subst this
    rw[←h3,List.drop_left,List.take_of_length_le (by omega)]
    exact g4
  ·by_cases hia:i<acs.length
   ·rw[List.getElem?_append_left hia]at hq
    obtain⟨v',e1,e2,e3⟩:=h5 i v hq
    exact⟨v',e1,e2.mono g2.le,e3⟩
   ·rw[List.getElem?_append_right (by omega)]at hq
    obtain⟨v',e1,e2⟩:=g3.get hq
    refine⟨v',?_,e2,List.all_eq_true.1 g6 v (List.mem_of_getElem? hq)⟩
    have hi':i - acs.length<bcs.length:=by
     rcases Nat.lt_or_ge (i - acs.length) bcs.length with g|g
     ·exact g
     ·rw[List.getElem?_eq_none g]at hq;cases hq
    have:=hcell (i - acs.length) (by omega)
    rw[Go.Deep.add_add,←h3,show acs.length+(i - acs.length)=i by omega]at this
    rw[this];exact e1
theorem open_fields {f : TypeId → List Value → Prop} {cs : List Value} : ∀ (fs : List Field) (at_ stop : Nat), lined P at_ fs stop = true → stop ≤ cs.length →
    (∀ g ∈ fs, ∀ cs', f g.type cs' → ∀ ι C n, Sofar P w ι C n → Opened P w ι C n g.type cs') → (∀ g ∈ fs, f g.type ((cs.drop g.offset).take (P.cellsOf g.type))) → ∀ ι C n, Sofar P w ι C n →
    ∃ acs κ C' n', Sofar P w κ C' n' ∧ More ι C n κ C' n' ∧ VRs κ acs ((cs.drop at_).take (stop - at_)) ∧ acs.all one = true ∧ acs.length = stop - at_ ∧ at_ ≤ stop ∧
      ∀ g ∈ fs, at_ ≤ g.offset ∧ AR P C' g.type ((acs.drop (g.offset - at_)).take (P.cellsOf g.type)) := by
  intro fs
  induction fs with
  | nil =>
    intro at_ stop hl _ _ _ ι C n h
    have : at_ = stop := by simpa [lined] using hl
    subst this
    exact ⟨[], ι, C, n, h, More.refl _ _ _, by simpa using VRs.nil ι, rfl, by simp, Nat.le_refl _, fun g hg => by cases hg⟩
  | cons g fs ih =>
    intro at_ stop hl hst hop hf ι C n h
    simp only [lined, Bool.and_eq_true, beq_iff_eq] at hl
    obtain ⟨hoff, hl⟩ := hl
    obtain ⟨bcs, κ, C', n', g1, g2, g3, g4, g5, g6⟩ := hop g (by simp) _ (hf g (by simp)) ι C n h
    obtain ⟨acs, μ, C'', n'', h1, h2, h3, h4, h5, h6, h7⟩ := ih _ stop hl hst (fun g' hg' => hop g' (by simp [hg'])) (fun g' hg' => hf g' (by simp [hg'])) κ C' n' g1
    rw [hoff] at g3
    refine ⟨bcs ++ acs, μ, C'', n'', h1, g2.trans h2, ?_, by simp [g6, h4], by rw [List.length_append, g5, h5]; omega, by omega, fun g' hg' => ?_⟩
    · have e1 : (cs.drop at_).take (stop - at_) = (cs.drop at_).take (P.cellsOf g.type) ++ (cs.drop (at_ + P.cellsOf g.type)).take (stop - (at_ + P.cellsOf g.type)) := by
        have : stop - at_ = P.cellsOf g.type + (stop - (at_ + P.cellsOf g.type)) := by omega
        rw [this, List.take_add, List.drop_drop]
      rw [e1]
      exact (g3.mono h2.le).append h3
    · rcases List.mem_cons.1 hg' with e | e
      · subst e
        refine ⟨by omega, ?_⟩
        rw [hoff, Nat.sub_self, List.drop_zero, List.take_append_of_le_length (by omega), List.take_of_length_le (by omega)]
        exact g4.mono h2.heap
      · obtain ⟨k1, k2⟩ := h7 g' e
        refine ⟨by omega, ?_⟩
        rw [List.drop_append, List.drop_of_length_le (by omega), List.nil_append, g5, show g'.offset - at_ - P.cellsOf g.type = g'.offset - (at_ + P.cellsOf g.type) by omega]
        exact k2
theorem open_cells:∀(fuel d:Nat) (t:TypeId) (cs:List Value) (x:DataW H × List MemPlace),plainT P d t=true→DataW.trod enc P w 0 (fun _=>true) true fuel t cs=some x →
  ∀ι C n,Sofar P w ι C n→Opened P w ι C n t cs:=by
 intro fuel
 induction fuel with
 | zero=>intro d t cs x _ h;simp[DataW.trod]at h
 | succ fuel ih =>
  intro d t cs x hp h ι C n hs
  cases d with
  | zero=>simp[plainT]at hp
  | succ d =>
   simp only[plainT]at hp
   split at hp
   ·rename_i ht
    obtain⟨b,rfl,_⟩:=DataW.trod_bool ht h
    exact opened_flat hs rfl (.bool b) (.bool t b ht) hp
   ·rename_i k ht
    obtain⟨m,rfl,_,hw⟩:=DataW.trod_int ht h
    exact opened_flat hs rfl (.int k m) (.int t k m ht hw) hp
   ·rename_i k ht
    have:∃b,cs=[.float k b]∧(Lit.float k b).wf=true:=by
     unfold DataW.trod at h
     rw[ht]at h
     split at h <;> simp_all
    obtain⟨b,rfl,hw⟩:=this
    exact opened_flat hs rfl (.float k b) (.float t k b ht hw) hp
   ·rename_i ht
    obtain⟨s,rfl,_,hw⟩:=DataW.trod_string ht h
    exact opened_flat hs rfl (.string s) (.string t s ht hw) hp
   ·rename_i e ht
    simp only[Bool.and_eq_true,decide_eq_true_eq]at hp
    obtain⟨⟨hc,he0⟩,hpe⟩:=hp
    have hc':P.cellsOf t=1:=by simpa using hc
    rcases DataW.trod_slice ht h with⟨rfl,_⟩|⟨a,len,cap,elems,rest,m,hm,rfl,_,_,hlc,hmx,hel,h1,h2,_⟩
    ·exact opened_flat hs rfl .sliceNil (.nil t e ht) hc
    ·have hmf:m=fuel:=by omega
     subst hmf
     by_cases hcap:cap=0
     ·have hl0:len=0:=by omega
      subst hcap hl0
      obtain⟨k1,k2⟩:=hs.addRO (cs:=[]) (e:=e) (b:=0) (o:=0) hs.pos (fun i v e=>by simp at e)
      exact⟨[.slice (some ⟨n,0,none⟩) 0 0],_,_,n+1,k1,k2,.cons (.sliceE n 0 a _ (iset_same _ _ _) rfl) (.nil _),.slice t e n 0 [] ht (hset_same _ _ _) (by simp) (Nat.zero_le _) (fun i hi=>absurd hi (Nat.not_lt_zero _)),by simp[hc'],rfl⟩
     ·obtain⟨hr1,hr2⟩:=h2 rfl
      have hsome:∀i,i<len→∃cs,w.cells? 0 (a.add (i*P.cellsOf e)) (P.cellsOf e)=some cs∧(∃x,DataW.trod enc P w 0 (fun _=>true) true m e cs=some x):=by
       intro i hi
       have:=h1 i hi
       rw[List.getElem?_eq_getElem (by omega)]at this
       obtain⟨cs',e1,e2⟩:=Option.bind_eq_some_iff.1 this
       exact⟨cs',e1,_,e2⟩
      have hfirst:∃cs,w.cells? 0 (a.add 0) (P.cellsOf e)=some cs:=by
       by_cases hl:0<len
       ·obtain⟨cs',e1,_⟩:=hsome 0 hl
        exact⟨cs',by simpa using e1⟩
       ·have hl0:len=0:=by omega
        have:=hr2 0 (by omega)
        rw[List.getElem?_eq_getElem (by omega)]at this
        obtain⟨cs',e1,_⟩:=Option.bind_eq_some_iff.1 this
        exact⟨cs',by simpa [hl0] using e1⟩
      obtain⟨cs0,hcs0⟩:=hfirst
      obtain⟨hl0,hcell0⟩:=cells?_spec hcs0
      have hc0:=hcell0 0 (by omega)
      rw[List.getElem?_eq_getElem (by omega)]at hc0
      have ha:a.add 0=a:=by simp[Addr.add]
      rw[ha,ha]at hc0
      have hblk:a.block<w.heap.size:=World.block_lt_of_cell? w a hc0
      have hspot:a.spot=none:=by
       unfold World.cell? at hc0
       cases hsp:a.spot with
       | none=>rfl
       | some s=>simp[hsp]at hc0;split at hc0 <;> simp at hc0
      obtain⟨b,o,sp⟩:=a
      simp only at hspot hblk
      subst hspot
      obtain⟨acs,κ,C',n',g1,g2,g3,g4,g5⟩:=open_elems (f:=fun e cs=>∃x,DataW.trod enc P w 0 (fun _=>true) true m e cs=some x)
       (fun cs' hx ι C n h=>by obtain⟨x,hx⟩:=hx;exact ih d e cs' x hpe hx ι C n h) hsome len (Nat.le_refl _) ι C n hs
      obtain⟨k1,k2⟩:=g1.addRO (e:=e) hblk (fun i v e=>by
       obtain⟨v',e1,e2⟩:=g5 i v e
       rw[add_lit]at e1
       exact⟨v',e1,e2⟩)
      refine⟨[.slice (some ⟨n',0,none⟩) len len],_,_,n'+1,k1,g2.trans k2,.cons ?_ (.nil _),?_,by simp[hc'],rfl⟩
      ·exact .slice n' 0 len o cap _ (iset_same _ _ _) (fun _=>rfl) hlc hmx (fun e=>by cases e)
      ·refine .slice t e n' len acs ht (hset_same _ _ _) g3 (by omega) fun i hi=>(g4 i hi).mono k2.heap
   ·rename_i fs ht
    simp only[Bool.and_eq_true,List.all_eq_true]at hp
    obtain⟨xs,m,hm,_,hlen,hxs,hf⟩:=DataW.trod_struct ht h
    have hmf:m=fuel:=by omega
    subst hmf
    obtain⟨acs,κ,C',n',g1,g2,g3,g4,g5,_,g7⟩:=open_fields (w:=w) (f:=fun t cs=>∃x,DataW.trod enc P w 0 (fun _=>true) true m t cs=some x) (cs:=cs) fs.toList 0 (P.cellsOf t) hp.1 (by omega)
     (fun g hg cs' hx ι C n h=>by obtain⟨x,hx⟩:=hx;exact ih d g.type cs' x (hp.2 g hg) hx ι C n h)
     (fun g hg=>by
      obtain⟨i,hi,rfl⟩:=List.getElem_of_mem hg
      have hi':i<fs.size:=by simpa using hi
      have:=hf i fs[i] (Array.getElem?_eq_getElem hi')
      rw[List.getElem?_eq_getElem (by omega)]at this
      exact⟨_,by simpa using this⟩) ι C n hs
    refine⟨acs,κ,C',n',g1,g2,?_,?_,by omega,g4⟩
    ·simpa [List.take_of_length_le (Nat.le_of_eq hlen)] using g3
    ·refine .struct t fs acs ht (by omega) fun i f hi=>?_
     have hmem:f∈fs.toList:=by have:=Array.mem_of_getElem? hi;simpa using this
     have:=(g7 f hmem).2
     simpa using this
   ·cases hp
end
end Go.AM
namespace Go.AM
open Go.RowKit Go.ChangeShapes Go.WideShapes Go.ChangeAt
section
variable {P:Program} {H:Type} {enc:TypeId × Value→H}
def ARV(P:Program)(H:Heap)(t:TypeId)(v:Value):Prop:=AR P H t (vcells v)∧(aggT P t=some true→∃cs,v=.agg cs)∧(aggT P t=some false→one v=true)
inductive ARs(P:Program)(H:Heap):List TypeId→List Value→Prop where
 | nil:ARs P H [] []
 | cons {t:TypeId} {v:Value} {ts:List TypeId} {vs:List Value} (h:ARV P H t v) (k:ARs P H ts vs):ARs P H (t::ts) (v::vs)
theorem ARV.mono{H H':Heap}{t:TypeId}{v:Value}(h:ARV P H t v)(hle:∀x,H x≠.dead→H' x=H x):ARV P H' t v:=⟨h.1.mono hle,h.2⟩
theorem one_of_ok{t:TypeId}{W:World}{base d:Nat}{v:Value}(hp:plainT P d t=true)(ha:aggT P t=some false)(h:Value.okWide P W .any base t v):v.oneCell'=true:=by
 cases d with
 | zero=>simp[plainT]at hp
 | succ d =>
  unfold aggT at ha
  simp only[plainT]at hp
  unfold Value.okWide at h
  unfold Cell.okWide Cell.ok at h
  split at hp <;> rename_i ht <;> (try rw[ht]at ha) <;> (try rw[ht]at h) <;> (first|(cases ha;done)|(cases hp;done)|skip) <;>
   (cases v <;> first|rfl|(simp at h)|(simp at hp))
theorem open_args:∀(ts:List TypeId) (vs:List Value) (ds:List (DataW H)) (ps:List MemPlace) (W:World) (base d:Nat),(∀t∈ts,plainT P d t=true) →
  (∀(j:Nat) t v,ts[j]? = some t→vs[j]? = some v→Value.okWide P W .any base t v)→DataW.TrodAll enc P W 0 (fun _=>true) true ts vs ds ps →
  ∀ι C n,Sofar P W ι C n→∃avs κ C' n',Sofar P W κ C' n'∧More ι C n κ C' n'∧VRs κ avs vs∧ARs P C' ts avs:=by
 intro ts
 induction ts with
 | nil =>
  intro vs ds ps W base d _ _ h ι C n hs
  obtain⟨rfl,_,_⟩:=trodAll_nil h
  exact⟨[],ι,C,n,hs,More.refl _ _ _,.nil ι,.nil⟩
 | cons t ts ih =>
  intro vs ds ps W base d hp hok h ι C n hs
  obtain⟨v,vs1,d1,ds1,a,b,rfl,rfl,rfl,h1,h2⟩:=trodAll_cons h
  obtain⟨fuel,h1⟩:=h1
  obtain⟨acs,κ,C1,n1,g1,g2,g3,g4,g5,g6⟩:=open_cells fuel d t _ _ (hp t (by simp)) h1 ι C n hs
  obtain⟨avs,μ,C2,n2,k1,k2,k3,k4⟩:=ih vs1 ds1 b W base d (fun t' ht'=>hp t' (by simp[ht'])) (fun j t' v' e1 e2=>hok (j+1) t' v' (by simpa using e1) (by simpa using e2)) h2 κ C1 n1 g1
  have hov:=hok 0 t v rfl rfl
  have hagg:∃b,aggT P t=some b:=by
   have hpt:=hp t (by simp)
   cases d with
   | zero=>simp[plainT]at hpt
   | succ d =>
    simp only[plainT]at hpt
    unfold aggT
    split at hpt <;> rename_i ht <;> simp[ht]
    cases hpt
  obtain⟨b,hb⟩:=hagg
  have hval:∃av,VR κ av v∧ARV P C1 t av:=by
   cases b with
   | true =>
    have hv:∃cs,v=.agg cs:=by
     unfold aggT at hb
     unfold Value.okWide at hov
     split at hb <;> rename_i ht <;> simp only[ht]at hov <;> (try (cases hb;done))
     all_goals (obtain⟨cs,e,_⟩:=hov;exact⟨cs,e⟩)
    obtain⟨cs,rfl⟩:=hv
    refine⟨.agg acs.toArray,?_,?_,fun _=>⟨_,rfl⟩,fun e=>by rw[hb]at e;cases e⟩
    ·have:=g3.agg;simpa [Value.cells] using this
    ·simpa [vcells,Value.cells] using g4
   | false =>
    have hv1:=one_of_ok (hp t (by simp)) hb hov
    have hc:v.cells.toList=[v]:=by cases v <;> first|rfl|(simp[Value.oneCell']at hv1)
    rw[hc]at g3
    match acs,g3 with
    | [av],g3 =>
     obtain⟨v',k,e,r1,_⟩:=g3.cons_inv
     simp only[List.cons.injEq]at e
     obtain⟨rfl,_⟩:=e
     have ho:one av=true:=by simpa using g6
     have hvc:vcells av=[av]:=by cases av <;> first|rfl|(simp[one]at ho)
     exact⟨av,r1,by rw[hvc];exact g4,fun e=>by(rw[hb]at e;cases e),fun _=>ho⟩
    | [],g3=>simp[VRs]at g3
    | _::_::_,g3=>simp[VRs]at g3
  obtain⟨av,r1,r2⟩:=hval
  exact⟨av::avs,μ,C2,n2,k1,g2.trans k2,.cons (r1.mono k2.le) k3,.cons (r2.mono k2.heap) k4⟩
theorem trodAll_stays(hl:laidOutB P=true){W W':World}(hb:Below W.heap.size W W'):∀(ts:List TypeId) (vs:List Value) (ds:List (DataW H)) (ps:List MemPlace),
  (∀t∈ts,P.readableRec t=true∧t<P.types.size)→DataW.TrodAll enc P W 0 (fun _=>true) true ts vs ds ps→(∀x∈ps,x.block<W.heap.size) →
  DataW.TrodAll enc P W' 0 (fun b=>decide (b<W.heap.size)) true ts vs ds ps:=by
 intro ts
 induction ts with
 | nil=>intro vs ds ps _ h _;obtain⟨rfl,rfl,rfl⟩:=trodAll_nil h;exact rfl
 | cons t ts ih =>
  intro vs ds ps ht h hp
  obtain⟨v,vs1,d1,ds1,a,b,rfl,rfl,rfl,h1,h2⟩:=trodAll_cons h
  obtain⟨hr,hrow⟩:=ht t (by simp)
  exact⟨a,b,Below.trod hl hr hrow h1 hb (fun x hx=>hp x (by simp[hx])),ih vs1 ds1 b (fun t' h'=>ht t' (by simp[h'])) h2 (fun x hx=>hp x (by simp[hx])),rfl⟩
theorem still1_of_flat1{v:Value}(h:flat1 v=true):still1 v=true:=by
 unfold still1
 split
 ·rfl
 ·exact h
structure Globs(P:Program)(W:World)(G:Heap):Prop where
 out:∀x,ngl P≤x→G x=.dead
 cells:∀x,G x≠.dead→∃cs ty,G x=.cells cs ty false∧cs.all flat1=true∧∀(i:Nat) (v:Value),cs[i]? = some v→W.cell? ⟨x,i,none⟩=some v
 there:ngl P≤W.heap.size
 pos:0<W.heap.size
def AllRO(H:Heap):Prop:=∀x cs ty own,H x=.cells cs ty own→own=false
def LawRuns(P:Program)(G:Heap)(F:FuncId)(ts:List TypeId):Prop :=
 ∀(n:Nat) (H:Heap) (vs:List Value),WF n H→ngl P≤n→(∀x,G x≠.dead→H x=G x)→AllRO H→ARs P H ts vs→∃n' H',BS P (.call F vs n H) (.ret (.bool true) n' H')
theorem law_contract (hm : P.follows .mixedOrders = true) (hl : laidOutB P = true) {F : FuncId} {fn : Func} {s : ChangeSpec} {d : Nat} {tb : TypeId} {G : Heap} (hlaw : LawRuns P G F fn.params.toList) (hvars : s.vars = [])
    (hspec : ∀ ds : List (DataW H), ds.length = fn.params.size → s.fn H ds = { results := [.lit (.bool true)], args := ds })
    (hp : ∀ t ∈ fn.params.toList, plainT P d t = true ∧ P.readableRec t = true ∧ t < P.types.size) (hres : fn.resultTypes = #[tb]) (htb : P.underlying tb = some .bool)
    (W : World) (base : Nat) (args : Array Value) (ds gs : List (DataW H)) (before : List MemPlace)
    (hval : ∀ (j : Nat) t v, fn.params[j]? = some t → args[j]? = some v → Value.okWide P W .any base t v) (hW : DataW.Whole enc P fn.params.toList s.vars false W args.toList ds gs before) (hG : Globs P W G) :
    Calls P F args W fun e W' => ∃ v, e = .returned v ∧ s.post enc P fn false true false false W args v W' := by
  have hlt := hW.lt
  have hW' := hW
  obtain ⟨p, q, hA, hV, rfl, hfz, hnd⟩ := hW
  rw [hvars] at hV
  obtain ⟨rfl, rfl⟩ : gs = [] ∧ q = [] := by
    cases gs with
    | nil => exact ⟨rfl, hV⟩
    | cons => exact absurd hV (by simp [DataW.TrodVars])
  have hs0 : Sofar P W (fun x => if x < ngl P then some ⟨x, 0, false, 0, 0⟩ else none) G (ngl P) := by
    refine ⟨⟨fun x => ?_, fun x y t u hx hy ex ey ho => ?_, fun x t e => ?_, Nat.le_refl _, fun g hg => by simp [hg], fun x y t u cs ty b ds ty' hx hy ex ey hbl => ?_⟩, fun x hx => by rw [if_neg (by omega)], fun x hx => hG.out x hx, fun x t e => ?_, hG.pos⟩
    · by_cases hd : G x = .dead
      · rw [hd]; trivial
      · obtain ⟨cs, ty, hc, hf, hcell⟩ := hG.cells x hd
        have hx : x < ngl P := Nat.lt_of_not_le fun h => hd (hG.out x h)
        rw [hc]
        refine ⟨⟨x, 0, false, 0, 0⟩, by simp [hx], rfl, fun i v e => ?_, fun e => by cases e⟩
        have hv := List.all_eq_true.1 hf v (List.mem_of_getElem? e)
        refine ⟨v, by simpa using hcell i v e, flat1_refl _ hv, still1_one (still1_of_flat1 hv)⟩
    · split at ex
      · cases ex; cases ho
      · cases ex
    · split at e
      · rename_i hx; cases e; exact ⟨Nat.lt_of_lt_of_le hx hG.there, (fun k => by cases k), fun _ => Nat.lt_of_lt_of_le hx hG.there⟩
      · cases e
    · obtain ⟨_, _, hc, _⟩ := hG.cells x (by rw [hx]; intro e; cases e)
      rw [hc] at hx; cases hx
    · split at e
      · cases e; rfl
      · cases e
  obtain ⟨avs, κ, C, n, g1, g2, g3, g4⟩ := open_args fn.params.toList args.toList ds p W base d (fun t ht => (hp t ht).1) (fun j t v e1 e2 => hval j t v (by simpa using e1) (by simpa using e2)) hA _ _ _ hs0
  obtain ⟨n', H', hbs⟩ := hlaw n C avs g1.wf g2.n (fun x hx => g2.heap x hx) (fun x cs ty own hx => by
    have hob := g1.hr.obj x
    rw [hx] at hob
    obtain ⟨t, h1, h2, _⟩ := hob
    rw [← h2]; exact g1.ro x t h1) g4
  obtain ⟨hmono, hcs, _⟩ := sound hm hbs
  have hcall := hcs g1.wf W.heap.size κ C W args.toList g3 g1.hr (fun _ _ _ => rfl) (fun x h1 _ => g1.free x h1)
  rw [Array.toArray_toList] at hcall
  refine hcall.mono ?_
  rintro e W' ⟨v', κ', C', rfl, hvr, ha⟩
  cases hvr
  refine ⟨.bool true, rfl, ds, [], p, [], p, [], by simpa using hW', ?_, ?_, ?_, ?_, fun h => by cases h⟩
  · have hlen : ds.length = fn.params.size := by
      have key : ∀ (ts : List TypeId) (vs : List Value) (ds : List (DataW H)) (ps : List MemPlace), DataW.TrodAll enc P W 0 (fun _ => true) true ts vs ds ps → ds.length = ts.length := by
        intro ts
        induction ts with
        | nil => intro vs ds ps h; obtain ⟨_, rfl, _⟩ := trodAll_nil h; rfl
        | cons t ts ih =>
          intro vs ds ps h
          obtain ⟨v, vs1, d1, ds1, a, b, rfl, rfl, rfl, _, h2⟩ := trodAll_cons h
          simp [ih _ _ _ h2]
      rw [key _ _ _ _ hA]; simp
    rw [hres, List.append_nil, hspec ds hlen]
    exact trodAll_mk1 (shut_bool htb true)
  · have hlen : ds.length = fn.params.size := by
      have key : ∀ (ts : List TypeId) (vs : List Value) (ds : List (DataW H)) (ps : List MemPlace), DataW.TrodAll enc P W 0 (fun _ => true) true ts vs ds ps → ds.length = ts.length := by
        intro ts
        induction ts with
        | nil => intro vs ds ps h; obtain ⟨_, rfl, _⟩ := trodAll_nil h; rfl
        | cons t ts ih =>
          intro vs ds ps h
          obtain ⟨v, vs1, d1, ds1, a, b, rfl, rfl, rfl, _, h2⟩ := trodAll_cons h
          simp [ih _ _ _ h2]
      rw [key _ _ _ _ hA]; simp
    rw [List.append_nil, hspec ds hlen]
    exact trodAll_stays hl ha.below _ _ _ _ (fun t ht => (hp t ht).2) hA (fun x hx => by simpa using hlt x (by simp [hx]))
  · rw [hvars]
    have hlen : True := trivial
    have : (s.fn H (ds ++ [])).vars = [] := by
      rw [List.append_nil, hspec ds (by
        have key : ∀ (ts : List TypeId) (vs : List Value) (ds : List (DataW H)) (ps : List MemPlace), DataW.TrodAll enc P W 0 (fun _ => true) true ts vs ds ps → ds.length = ts.length := by
          intro ts
          induction ts with
          | nil => intro vs ds ps h; obtain ⟨_, rfl, _⟩ := trodAll_nil h; rfl
          | cons t ts ih =>
            intro vs ds ps h
            obtain ⟨v, vs1, d1, ds1, a, b, rfl, rfl, rfl, _, h2⟩ := trodAll_cons h
            simp [ih _ _ _ h2]
        rw [key _ _ _ _ hA]; simp)]
    rw [this]
    exact rfl
  · exact World.keptBut_mono (fun x hx => by cases hx) (ha.below.frame (fun _ => False))
end
end Go.AM
namespace Go.AM
open Go.RowKit
theorem laid_at{P:Program}{w:World}:∀{l:List (String × DataW Unit)} {ps:List MemPlace},DataW.LaidVars P w l ps→∀(i:Nat) (nm:String) (d:DataW Unit),l[i]? = some (nm,d) →
  ∃g t cs fuel p,P.globalNamed nm=some g∧(P.globals[g]?).map (·.type)=some t∧w.var? P nm=some cs∧DataW.trod (fun _=>()) P w 0 (fun _=>true) false fuel t cs.toList=some (d,p)
 | [],_,_,i,nm,d,e=>by simp at e
 | (n,d')::r,ps,h,i,nm,d,e=>by
  obtain⟨g,t,cs,fuel,p,q,h1,h2,h3,h4,h5,_⟩:=h
  cases i with
  | zero=>simp at e;obtain⟨rfl,rfl⟩:=e;exact⟨g,t,cs,fuel,p,h1,h2,h3,h4⟩
  | succ i=>exact laid_at h5 i nm d (by simpa using e)
theorem heap_of_shaped{P:Program}{W:World}(hs:W.ShapedOpen P){g:Nat}{zero:Array Value}{t:TypeId}(hg:g<P.globals.size)
  (h:((begin P (fun _ _=>0) default).world.heap[g]?).bind Obj.row? = some (zero,t)):g<W.heap.size:=by
 obtain⟨cs,h1,_⟩:=hs.1 g zero t hg h
 rcases Nat.lt_or_ge g W.heap.size with k|k
 ·exact k
 ·rw[Array.getElem?_eq_none k]at h1;cases h1
def noIface:Value→Bool
 | .iface _ _=>false
 | _=>true
theorem laidMet_mk{P:Program}{w:World}{l:List (String × DataW Unit)}{ps:List MemPlace}(M:Nat)(bs:List Nat)(h:DataW.LaidVars P w l ps)(hn:nodupBits M ps 0=true)
  (hb:(ps.all fun p=>match p with|.cell b _=>bs.contains b|.map _=>false)=true) (ho:∀b∈bs,∃c t,w.heap[b]? = some (.cells c t (0,0))∧c.toList.all noIface=true):laidMet P l w:=by
 refine⟨ps,h,(nodupBits_sound hn).1,fun b off hp=>?_⟩
 have:=List.all_eq_true.1 hb _ hp
 obtain⟨c,t,h1,h2⟩:=ho b (by simpa using this)
 refine⟨⟨c,t,h1⟩,fun u v hc=>?_⟩
 exfalso
 have h3:c[off]? = some (.iface u v):=by
  unfold World.cell? at hc
  simpa [h1] using hc
 have h4:=List.all_eq_true.1 h2 (.iface u v) (by
  have:=Array.mem_of_getElem? h3
  simpa using this)
 cases h4
theorem witness_zip{H:Type}{enc:TypeId × Value→H}{C:Checked}{os:Os}{f:FuncId}{fn:Func}{s:OpenSpec}{conds:List PathCond}{apart:Bool}{laid:List (String × DataW Unit)}(w0:World)(args:Array Value)(hos:w0.os=os)
  (hv:(w0.forCall (fun _ _=>0) ⟨#[],args,[]⟩).variablesZipB C.prog=true)
  (hr:((w0.forCall (fun _ _=>0) ⟨#[],args,[]⟩).heap.toList.drop C.prog.globals.size).take ((begin C.prog (fun _ _=>0) default).world.heap.size - C.prog.globals.size) =
   (begin C.prog (fun _ _=>0) default).world.heap.toList.drop C.prog.globals.size)
  (hok:Input.okWideB C.prog (w0.forCall (fun _ _=>0) ⟨#[],args,[]⟩) f ⟨#[],args,[]⟩=true)
  (hrow:s.preRow enc C.prog fn conds apart laid (w0.forCall (fun _ _=>0) ⟨#[],args,[]⟩).memory args) :
  ∃(w:World) (tape:Tape) (i:Input),w.os=os∧(w.forCall tape i).Shaped C.prog∧i.vars=[]∧Input.okWide C.prog (w.forCall tape i) .any w.heap.size f i ∧
   s.preRow enc C.prog fn conds apart laid (w.forCall tape i).memory i.args∧({}:Assume).holds C.prog (lone (Frame.enter C.prog f i.args .normal) [] (w.forCall tape i)) :=
 ⟨w0,fun _ _=>0,⟨#[],args,[]⟩,hos,World.shaped_of_ZipB hv hr,(Input.okWide_of_okWideB (base:=0) hok).1,(Input.okWide_of_okWideB hok).2,hrow,by
  simp only[Assume.holds]
  exact⟨by simp,by simp,by simp,by simp,by simp⟩⟩
end Go.AM
namespace Go.AM
open Go.RowKit
structure GRule where
 left:Int
 right:List Int
 weight:Nat
structure Gram where
 terms:List ByteArray
 vars:List ByteArray
 rules:List GRule
def RR(H:Heap)(a:Option Addr)(l:List GRule):Prop :=
 l≠[]→∃x k cs ty own,a=some ⟨x,k,none⟩∧H x=.cells cs ty own∧∀i r,l[i]? = some r →
  ∃p,cs[k+i*3]? = some (.int .i64 r.left)∧cs[k+i*3+1]? = some (.slice p r.right.length r.right.length)∧cs[k+i*3+2]? = some (.float .f64 r.weight)∧RS (Value.int .i64) H p r.right
theorem RR.mono{n n':Nat}{H H':Heap}{a:Option Addr}{l:List GRule}(h:RR H a l)(hw:WF n H)(hk:Kp n H n' H'):RR H' a l:=by
 intro hl
 obtain⟨x,k,cs,ty,own,e1,e2,e3⟩:=h hl
 refine⟨x,k,cs,ty,own,e1,?_,fun i r hi=>?_⟩
 ·rw[hk.keep x,e2]
  apply Classical.byContradiction
  intro hx
  rw[hw x (by omega)]at e2;cases e2
 ·obtain⟨p,c1,c2,c3,c4⟩:=e3 i r hi
  exact⟨p,c1,c2,c3,c4.mono hw hk⟩
theorem RR.atS{H:Heap}{a:Option Addr}{l:List GRule}(h:RR H a l){i:Nat}(hi:i<l.length) :
  ∃x k cs ty own p,a=some ⟨x,k,none⟩∧H x=.cells cs ty own∧cs[k+i*3]? = some (.int .i64 l[i].left)∧cs[k+i*3+1]? = some (.slice p l[i].right.length l[i].right.length) ∧
   cs[k+i*3+2]? = some (.float .f64 l[i].weight)∧RS (Value.int .i64) H p l[i].right:=by
 obtain⟨x,k,cs,ty,own,e1,e2,e3⟩:=h (by intro e;simp[e]at hi)
 obtain⟨p,c1,c2,c3,c4⟩:=e3 i _ (List.getElem?_eq_getElem hi)
 exact⟨x,k,cs,ty,own,p,e1,e2,c1,c2,c3,c4⟩
theorem RR.at{H:Heap}{a:Option Addr}{l:List GRule}(h:RR H a l){i:Nat}(hi:i<l.length) :
  ∃x k cs ty own p,a=some ⟨x,k,none⟩∧H x=.cells cs ty own∧cs[k+i*3]? = some (.int .i64 l[i].left)∧cs[k+i*3+1]? = some (.slice p l[i].right.length l[i].right.length) ∧
   cs[k+i*3+2]? = some (.float .f64 l[i].weight)∧RA (Value.int .i64) H p l[i].right:=by
 obtain⟨x,k,cs,ty,own,p,e1,e2,c1,c2,c3,c4⟩:=h.atS hi
 exact⟨x,k,cs,ty,own,p,e1,e2,c1,c2,c3,c4.ra⟩
theorem take3{cs:List Value}{k:Nat}{a b c:Value}(h0:cs[k]? = some a)(h1:cs[k+1]? = some b)(h2:cs[k+2]? = some c):(cs.drop k).take 3=[a,b,c]:=by
 apply List.ext_getElem?
 intro i
 rw[List.getElem?_take,List.getElem?_drop]
 match i with
 | 0=>simpa using h0
 | 1=>simpa using h1
 | 2=>simpa using h2
 | i+3=>simp;omega
theorem len3{cs:List Value}{k:Nat}{c:Value}(h2:cs[k+2]? = some c):k+3≤cs.length:=by
 rcases Nat.lt_or_ge (k+2) cs.length with h|h
 ·omega
 ·rw[List.getElem?_eq_none h]at h2;cases h2
def gcells(pt pv pr:Option Addr)(g:Gram):List Value :=
 [.slice pt g.terms.length g.terms.length,.slice pv g.vars.length g.vars.length,.slice pr g.rules.length g.rules.length]
def RG(H:Heap)(v:Value)(g:Gram):Prop :=
 ∃pt pv pr,v=.agg (gcells pt pv pr g).toArray∧RA Value.string H pt g.terms∧RA Value.string H pv g.vars∧RR H pr g.rules
theorem RG.mono{n n':Nat}{H H':Heap}{v:Value}{g:Gram}(h:RG H v g)(hw:WF n H)(hk:Kp n H n' H'):RG H' v g:=by
 obtain⟨pt,pv,pr,e,h1,h2,h3⟩:=h
 exact⟨pt,pv,pr,e,h1.mono hw hk,h2.mono hw hk,h3.mono hw hk⟩
def inI(n:Int):Prop:=-9223372036854775808≤n∧n≤9223372036854775807
def maxL:Nat:=9223372036854775807
structure WG(g:Gram):Prop where
 terms:g.terms.length≤maxL
 vars:g.vars.length≤maxL
 rules:g.rules.length≤maxL
 left:∀r∈g.rules,inI r.left
 right:∀r∈g.rules,r.right.length≤maxL∧∀s∈r.right,inI s
 weight:∀r∈g.rules,r.weight<2 ^ 64
 size:∀s∈g.terms++g.vars,s.size≤maxL
theorem box_cells(pt pv pr:Option Addr)(g:Gram):vcells (.agg (gcells pt pv pr g).toArray)=gcells pt pv pr g:=rfl
theorem box_one(pt pv pr:Option Addr)(g:Gram):(gcells pt pv pr g).all one=true:=rfl
theorem gc_0(pt pv pr:Option Addr)(g:Gram):(gcells pt pv pr g)[0]? = some (.slice pt g.terms.length g.terms.length):=rfl
theorem gc_1(pt pv pr:Option Addr)(g:Gram):(gcells pt pv pr g)[1]? = some (.slice pv g.vars.length g.vars.length):=rfl
theorem gc_2(pt pv pr:Option Addr)(g:Gram):(gcells pt pv pr g)[2]? = some (.slice pr g.rules.length g.rules.length):=rfl
theorem gc_len(pt pv pr:Option Addr)(g:Gram):(gcells pt pv pr g).length=3:=rfl
theorem gc_all(pt pv pr:Option Addr)(g:Gram):((gcells pt pv pr g).drop 0).take 3=gcells pt pv pr g:=rfl
end Go.AM
namespace Go.AM
open Go.RowKit
theorem pick_list{α:Type}{Q:Nat→α→Prop}:∀(m:Nat),(∀i,i<m→∃y,Q i y)→∃l:List α,l.length=m∧∀i y,l[i]? = some y→Q i y:=by
 intro m
 induction m with
 | zero=>intro _;exact⟨[],rfl,fun i y h=>by simp at h⟩
 | succ m ih =>
  intro h
  obtain⟨l,h1,h2⟩:=ih fun i hi=>h i (by omega)
  obtain⟨y,hy⟩:=h m (by omega)
  refine⟨l++[y],by simp[h1],fun i z e=>?_⟩
  by_cases hi:i<l.length
  ·rw[List.getElem?_append_left hi]at e;exact h2 i z e
  ·rw[List.getElem?_append_right (by omega)]at e
   have:i - l.length=0:=by
    apply Classical.byContradiction
    intro hc
    obtain⟨q,hq⟩:∃q,i - l.length=q+1:=⟨i - l.length - 1,by omega⟩
    rw[hq]at e;simp at e
   have e':i=m:=by omega
   rw[this]at e
   simp at e
   subst e
   rw[e'];exact hy
theorem at1{cs:List Value}{i:Nat}{v:Value}(h:(cs.drop i).take 1=[v]):cs[i]? = some v:=by
 have:((cs.drop i).take 1)[0]? = some v:=by rw[h];rfl
 rw[List.getElem?_take,List.getElem?_drop]at this
 simpa using this
variable {P:Program} {H:Heap}
theorem AR.int_inv{t:TypeId}{cs:List Value}(h:AR P H t cs)(ht:P.underlying t=some (.int .i64)):∃n,cs=[.int .i64 n]∧inI n:=by
 cases h with
 | int t k n ht' hw =>
  rw[ht]at ht';cases ht'
  refine⟨n,rfl,?_⟩
  simp[Lit.wf,IntKind.min,IntKind.max,IntKind.signed,IntKind.bits]at hw
  unfold inI
  omega
 | _=>simp_all
theorem AR.str_inv{t:TypeId}{cs:List Value}(h:AR P H t cs)(ht:P.underlying t=some .string):∃s,cs=[.string s]∧s.size≤maxL:=by
 cases h with
 | string t s ht' hs =>
  refine⟨s,rfl,Nat.le_trans hs ?_⟩
  unfold maxL maxLen
  omega
 | _=>simp_all
theorem AR.float_inv{t:TypeId}{cs:List Value}(h:AR P H t cs)(ht:P.underlying t=some (.float .f64)):∃b,cs=[.float .f64 b]∧b<2 ^ 64:=by
 cases h with
 | float t k b ht' hw =>
  rw[ht]at ht';cases ht'
  refine⟨b,rfl,?_⟩
  simpa [Lit.wf] using hw
 | _=>simp_all
theorem AR.slice_inv{t e:TypeId}{cs:List Value}(h:AR P H t cs)(ht:P.underlying t=some (.slice e)):cs=[.slice none 0 0]∨∃x m ds,cs=[.slice (some ⟨x,0,none⟩) m m]∧H x=.cells ds e false∧m≤maxL∧∀i,i<m→AR P H e ((ds.drop (i*P.cellsOf e)).take (P.cellsOf e)):=by
 cases h with
 | nil=>exact .inl rfl
 | slice t e' x m ds ht' hx hl hm he =>
  rw[ht]at ht';cases ht'
  refine .inr ⟨x,m,ds,rfl,hx,Nat.le_trans hm ?_,he⟩
  unfold maxL maxLen
  omega
 | _=>simp_all
theorem AR.list_inv {α : Type} {enc : α → Value} {good : α → Prop} {t e : TypeId} {cs : List Value} (h : AR P H t cs) (ht : P.underlying t = some (.slice e)) (hc : P.cellsOf e = 1) (hi : ∀ ds, AR P H e ds → ∃ y, ds = [enc y] ∧ good y) :
    ∃ p l, cs = [.slice p l.length l.length] ∧ RS enc H p l ∧ l.length ≤ maxL ∧ ∀ y ∈ l, good y := by
  rcases h.slice_inv ht with rfl | ⟨x, m, ds, rfl, hx, hm, he⟩
  · exact ⟨none, [], rfl, .inl ⟨rfl, rfl⟩, by simp, fun y hy => by cases hy⟩
  · obtain ⟨l, h1, h2⟩ := pick_list (Q := fun i y => ds[i]? = some (enc y) ∧ good y) m fun i hi' => by
      obtain ⟨y, e1, e2⟩ := hi _ (he i hi')
      rw [hc, Nat.mul_one] at e1
      exact ⟨y, at1 e1, e2⟩
    subst h1
    refine ⟨_, l, rfl, .inr ⟨x, 0, ds, e, false, rfl, hx, ?_, fun i y e => by rw [Nat.zero_add]; exact (h2 i y e).1⟩, hm, fun y hy => ?_⟩
    · rw [Nat.zero_add]
      apply Classical.byContradiction
      intro hc
      have hlt : ds.length < l.length := by omega
      have := (h2 ds.length _ (List.getElem?_eq_getElem hlt)).1
      rw [List.getElem?_eq_none (Nat.le_refl _)] at this
      cases this
    obtain ⟨i, hi', rfl⟩ := List.getElem_of_mem hy
    exact (h2 i _ (List.getElem?_eq_getElem hi')).2
theorem AR.ints{t e:TypeId}{cs:List Value}(h:AR P H t cs)(ht:P.underlying t=some (.slice e))(hc:P.cellsOf e=1)(he:P.underlying e=some (.int .i64)) :
  ∃p l,cs=[.slice p l.length l.length]∧RS (Value.int .i64) H p l∧l.length≤maxL∧∀y∈l,inI y:=h.list_inv ht hc fun _ hd=>hd.int_inv he
theorem AR.strs{t e:TypeId}{cs:List Value}(h:AR P H t cs)(ht:P.underlying t=some (.slice e))(hc:P.cellsOf e=1)(he:P.underlying e=some .string) :
  ∃p l,cs=[.slice p l.length l.length]∧RA Value.string H p l∧l.length≤maxL∧∀y∈l,y.size≤maxL:=by
 obtain⟨p,l,e,h1,h2⟩:=h.list_inv ht hc fun _ hd=>hd.str_inv he
 exact⟨p,l,e,h1.ra,h2⟩
structure GramT(P:Program)(tg tr ti tn tss trs tis tf:TypeId):Prop where
 g:∃f1 f2 f3:Field,P.underlying tg=some (.struct #[f1,f2,f3])∧f1.type=tss∧f1.offset=0∧f2.type=tss∧f2.offset=1∧f3.type=trs∧f3.offset=2
 r:∃f1 f2 f3:Field,P.underlying tr=some (.struct #[f1,f2,f3])∧f1.type=ti∧f1.offset=0∧f2.type=tis∧f2.offset=1∧f3.type=tf∧f3.offset=2
 i:P.underlying ti=some (.int .i64)
 n:P.underlying tn=some .string
 ss:P.underlying tss=some (.slice tn)
 rs:P.underlying trs=some (.slice tr)
 is:P.underlying tis=some (.slice ti)
 f:P.underlying tf=some (.float .f64)
 ci:P.cellsOf ti=1
 cn:P.cellsOf tn=1
 css:P.cellsOf tss=1
 crs:P.cellsOf trs=1
 cis:P.cellsOf tis=1
 cf:P.cellsOf tf=1
 cr:P.cellsOf tr=3
 cg:P.cellsOf tg=3
theorem AR.struct_inv{t:TypeId}{fs:Array Field}{cs:List Value}(h:AR P H t cs)(ht:P.underlying t=some (.struct fs)):cs.length=P.cellsOf t∧∀(i:Nat) (f:Field),fs[i]? = some f→AR P H f.type ((cs.drop f.offset).take (P.cellsOf f.type)):=by
 cases h with
 | struct t fs' cs ht' hl hf =>
  rw[ht]at ht';cases ht'
  exact⟨hl,hf⟩
 | _=>simp_all
section
variable {tg tr ti tn tss trs tis tf:TypeId}
theorem AR.rule(T:GramT P tg tr ti tn tss trs tis tf){cs:List Value}(h:AR P H tr cs):∃(r:GRule) (p:Option Addr),cs=[.int .i64 r.left,.slice p r.right.length r.right.length,.float .f64 r.weight]∧RS (Value.int .i64) H p r.right∧inI r.left∧r.right.length≤maxL∧(∀s∈r.right,inI s)∧r.weight<2 ^ 64:=by
 obtain⟨f1,f2,f3,e,a1,b1,a2,b2,a3,b3⟩:=T.r
 obtain⟨hl,hf⟩:=h.struct_inv e
 rw[T.cr]at hl
 match cs,hl with
 | [x,y,z],_ =>
  have h1:=hf 0 f1 rfl
  have h2:=hf 1 f2 rfl
  have h3:=hf 2 f3 rfl
  rw[a1,b1,T.ci]at h1
  rw[a2,b2,T.cis]at h2
  rw[a3,b3,T.cf]at h3
  obtain⟨n,e1,hn⟩:=h1.int_inv T.i
  obtain⟨p,l,e2,hp,hl,hs⟩:=h2.ints T.is T.ci T.i
  obtain⟨w,e3,hw⟩:=h3.float_inv T.f
  simp at e1 e2 e3
  subst e1 e2 e3
  exact⟨⟨n,l,w⟩,p,rfl,hp,hn,hl,hs,hw⟩
theorem AR.rules (T : GramT P tg tr ti tn tss trs tis tf) {cs : List Value} (h : AR P H trs cs) : ∃ p l, cs = [.slice p l.length l.length] ∧ RR H p l ∧ l.length ≤ maxL ∧ ∀ r ∈ l, inI r.left ∧ (r.right.length ≤ maxL ∧ ∀ s ∈ r.right, inI s) ∧ r.weight < 2 ^ 64 := by
  rcases h.slice_inv T.rs with rfl | ⟨x, m, ds, rfl, hx, hm, he⟩
  · exact ⟨none, [], rfl, fun h => absurd rfl h, by simp, fun y hy => by cases hy⟩
  · obtain ⟨l, h1, h2⟩ := pick_list (Q := fun i (r : GRule) => (∃ p, ds[i * 3]? = some (.int .i64 r.left) ∧ ds[i * 3 + 1]? = some (.slice p r.right.length r.right.length) ∧ ds[i * 3 + 2]? = some (.float .f64 r.weight) ∧ RS (Value.int .i64) H p r.right) ∧ inI r.left ∧ (r.right.length ≤ maxL ∧ ∀ s ∈ r.right, inI s) ∧ r.weight < 2 ^ 64) m fun i hi' => by
      have h := he i hi'
      rw [T.cr] at h
      obtain ⟨r, p, e, hp, q1, q2, q3, q4⟩ := AR.rule T h
      have g : ∀ j, j < 3 → ds[i * 3 + j]? = ((ds.drop (i * 3)).take 3)[j]? := fun j hj => by rw [List.getElem?_take, if_pos hj, List.getElem?_drop]
      refine ⟨r, ⟨p, ?_, ?_, ?_, hp⟩, q1, ⟨q2, q3⟩, q4⟩
      · have := g 0 (by omega); rw [e] at this; simpa using this
      · have := g 1 (by omega); rw [e] at this; simpa using this
      · have := g 2 (by omega); rw [e] at this; simpa using this
    subst h1
    refine ⟨_, l, rfl, fun _ => ⟨x, 0, ds, tr, false, rfl, hx, fun i r e => ?_⟩, hm, fun r hr => ?_⟩
    · obtain ⟨⟨p, c0, c1, c2, c3⟩, _⟩ := h2 i r e
      exact ⟨p, by rw [Nat.zero_add]; exact c0, by rw [Nat.zero_add]; exact c1, by rw [Nat.zero_add]; exact c2, c3⟩
    · obtain ⟨i, hi', rfl⟩ := List.getElem_of_mem hr
      exact (h2 i _ (List.getElem?_eq_getElem hi')).2
theorem ARV.gram(T:GramT P tg tr ti tn tss trs tis tf){v:Value}(ha:aggT P tg=some true)(h:ARV P H tg v):∃g,RG H v g∧WG g:=by
 obtain⟨h1,h2,_⟩:=h
 obtain⟨cs,rfl⟩:=h2 ha
 obtain⟨f1,f2,f3,e,a1,b1,a2,b2,a3,b3⟩:=T.g
 have hvc:vcells (.agg cs)=cs.toList:=rfl
 rw[hvc]at h1
 obtain⟨hl,hf⟩:=h1.struct_inv e
 rw[T.cg]at hl
 obtain⟨cs⟩:=cs
 simp only at hl hf
 match cs,hl with
 | [x,y,z],_ =>
  have h1:=hf 0 f1 rfl
  have h2:=hf 1 f2 rfl
  have h3:=hf 2 f3 rfl
  rw[a1,b1,T.css]at h1
  rw[a2,b2,T.css]at h2
  rw[a3,b3,T.crs]at h3
  obtain⟨pt,lt,e1,ht,ht1,ht2⟩:=h1.strs T.ss T.cn T.n
  obtain⟨pv,lv,e2,hv,hv1,hv2⟩:=h2.strs T.ss T.cn T.n
  obtain⟨pr,lr,e3,hr,hr1,hr2⟩:=AR.rules T h3
  simp at e1 e2 e3
  subst e1 e2 e3
  refine⟨⟨lt,lv,lr⟩,⟨pt,pv,pr,rfl,ht,hv,hr⟩,ht1,hv1,hr1,fun r h=>(hr2 r h).1,fun r h=>(hr2 r h).2.1,fun r h=>(hr2 r h).2.2,fun s hs=>?_⟩
  rcases List.mem_append.1 hs with hs|hs
  ·exact ht2 s hs
  ·exact hv2 s hs
end
theorem vcells_one{v:Value}(h:one v=true):vcells v=[v]:=by cases v <;> first|rfl|(simp[one]at h)
theorem ARV.intI{v:Value}{t:TypeId}(ht:P.underlying t=some (.int .i64))(ha:aggT P t=some false)(h:ARV P H t v):∃n,v=.int .i64 n∧inI n:=by
 obtain⟨h1,_,h3⟩:=h
 obtain⟨n,e,hn⟩:=h1.int_inv ht
 refine⟨n,?_,hn⟩
 have ho:=h3 ha
 rw[vcells_one ho]at e
 simpa using e
theorem ARV.intsI{v:Value}{t e:TypeId}(ht:P.underlying t=some (.slice e))(hc:P.cellsOf e=1)(he:P.underlying e=some (.int .i64))(ha:aggT P t=some false)(h:ARV P H t v) :
  ∃p l,v=.slice p l.length l.length∧RS (Value.int .i64) H p l∧l.length≤maxL∧∀y∈l,inI y:=by
 obtain⟨h1,_,h3⟩:=h
 obtain⟨p,l,e',hp,hl,hs⟩:=h1.ints ht hc he
 refine⟨p,l,?_,hp,hl,hs⟩
 have ho:=h3 ha
 rw[vcells_one ho]at e'
 simpa using e'
end Go.AM
namespace Go.AM
open Ieee
def Low(K:Int)(m:Nat)(e:Int):Prop:=m=0∨e+(m.log2:Int)≤K
theorem Low.mono{K L:Int}{m:Nat}{e:Int}(h:Low K m e)(hl:K≤L):Low L m e:=by
 rcases h with h|h
 ·exact .inl h
 ·exact .inr (by omega)
theorem cut_even_le(neg:Bool)(n drop B:Nat)(h:n<B*2 ^ drop)(hB:0<B):Toward.cut .even neg n drop≤B:=by
 unfold Toward.cut
 simp only
 have key:n / 1 <<< min drop (n.log2+2)<B:=by
  rw[Nat.shiftLeft_eq,Nat.one_mul]
  rcases Nat.le_total drop (n.log2+2)with hd|hd
  ·rw[Nat.min_eq_left hd]
   exact(Nat.div_lt_iff_lt_mul (Nat.two_pow_pos _)).2 h
  ·rw[Nat.min_eq_right hd]
   have:n<2 ^ (n.log2+2):=Nat.lt_of_lt_of_le Nat.lt_log2_self (Nat.pow_le_pow_right (by omega) (by omega))
   rw[Nat.div_eq_of_lt this];exact hB
 have h1:∀b:Bool,b.toNat≤1:=fun b=>by cases b <;> simp
 exact Nat.le_trans (Nat.add_le_add_left (h1 _) _) key
theorem low_write{K:Int}{s:Bool}{m:Nat}{e:Int}(h:Low K m e)(h0:0≤K)(h1:K≤900) :
  ∃m' e',Format.read double (Format.write double (.number s m e))=.number s m' e'∧Low (K+1) m' e':=by
 have rd:∀R:Nat,R≤(K+1024).toNat*2 ^ 52→∃m' e',Format.read double (Format.word double s R)=.number s m' e'∧Low (K+1) m' e':=by
  intro R hR
  have hK:(K+1024).toNat≤1924:=by omega
  have hR2:R≤1924*2 ^ 52:=Nat.le_trans hR (Nat.mul_le_mul_right _ hK)
  have hsw:Format.signWeight double=2 ^ 63:=rfl
  have hbin:Format.binade double=2 ^ 52:=rfl
  have hinf:Format.infRung double=2047*2 ^ 52:=rfl
  have hlp:Format.leastPlace double = -1074:=rfl
  have hneg:(Format.word double s R / 2 ^ 63 % 2 == 1)=s:=by
   unfold Format.word;rw[hsw]
   cases s
   ·simp only[Bool.false_eq_true,if_false];rw[Nat.div_eq_of_lt (by omega)];rfl
   ·simp only[if_true];rw[show(2 ^ 63+R) / 2 ^ 63=1 by omega];rfl
  have hrung:Format.word double s R % 2 ^ 63=R:=by
   unfold Format.word;rw[hsw]
   cases s
   ·simp only[Bool.false_eq_true,if_false];omega
   ·simp only[if_true];omega
  unfold Format.read
  simp only[hsw,hbin,hinf,hlp,hneg,hrung]
  split
  ·rename_i hlt
   refine⟨_,_,rfl,?_⟩
   rcases Nat.eq_zero_or_pos R with e|e
   ·exact .inl e
   ·right
    have:R.log2<52:=(Nat.log2_lt (by omega)).2 hlt
    omega
  ·rename_i hge
   rw[if_pos (by omega)]
   refine⟨_,_,rfl,.inr ?_⟩
   have hm:R % 2 ^ 52<2 ^ 52:=Nat.mod_lt _ (Nat.two_pow_pos _)
   have hl:(2 ^ 52+R % 2 ^ 52).log2<53:=(Nat.log2_lt (by omega)).2 (by omega)
   have hq:R / 2 ^ 52≤(K+1024).toNat:=by
    have:=Nat.div_le_div_right (c:=2 ^ 52) hR
    rwa [Nat.mul_div_cancel _ (Nat.two_pow_pos _)]at this
   have hq1:1≤R / 2 ^ 52:=by omega
   omega
 unfold Format.write Format.nearest
 simp only
 split
 ·exact rd 0 (Nat.zero_le _)
 rename_i hm
 have hL:e+(m.log2:Int)≤K:=by rcases h with h|h;exact absurd h hm;exact h
 have hlp:Format.leastPlace double = -1074:=rfl
 have hfb:((Format.fractionBits double:Nat):Int)=52:=rfl
 have hbin:Format.binade double=2 ^ 52:=rfl
 have hinf:Format.infRung double=2047*2 ^ 52:=rfl
 rw[hlp,hfb,hbin,hinf]
 generalize hlast:max (e+(m.log2:Int) - 52) (-1074)=last
 have hl1:e+(m.log2:Int) - 52≤last:=by omega
 have hl2:last≤K - 52∨last = -1074:=by omega
 have hl3 : -1074≤last:=by omega
 have hkept:Toward.cut .even s (m <<< (e - last).toNat) (last - e).toNat≤2 ^ 53:=by
  refine cut_even_le _ _ _ _ ?_ (Nat.two_pow_pos _)
  rw[Nat.shiftLeft_eq,←Nat.pow_add]
  have h2:m<2 ^ (m.log2+1):=Nat.lt_log2_self
  calc m*2 ^ (e - last).toNat<2 ^ (m.log2+1)*2 ^ (e - last).toNat:=Nat.mul_lt_mul_of_pos_right h2 (Nat.two_pow_pos _)
   _=2 ^ (m.log2+1+(e - last).toNat):=by rw[←Nat.pow_add]
   _≤2 ^ (53+(last - e).toNat):=Nat.pow_le_pow_right (by omega) (by omega)
 refine rd _ (Nat.le_trans (Nat.min_le_left _ _) ?_)
 have hpl:(last - -1074).toNat≤(K+1022).toNat:=by omega
 calc (last - -1074).toNat*2 ^ 52+Toward.cut .even s (m <<< (e - last).toNat) (last - e).toNat≤(K+1022).toNat*2 ^ 52+2 ^ 53:=Nat.add_le_add (Nat.mul_le_mul_right _ hpl) hkept
  _=((K+1022).toNat+2)*2 ^ 52:=by rw[Nat.add_mul]
  _≤(K+1024).toNat*2 ^ 52:=Nat.mul_le_mul_right _ (by omega)
theorem log2_mul_le{m n:Nat}(hm:m≠0)(hn:n≠0):(m*n).log2≤m.log2+n.log2+1:=by
 have h1:m<2 ^ (m.log2+1):=Nat.lt_log2_self
 have h2:n<2 ^ (n.log2+1):=Nat.lt_log2_self
 have:m*n<2 ^ (m.log2+n.log2+2):=by
  calc m*n<2 ^ (m.log2+1)*2 ^ (n.log2+1):=Nat.mul_lt_mul'' h1 h2
   _=2 ^ (m.log2+n.log2+2):=by rw[←Nat.pow_add];congr 1;omega
 have:=(Nat.log2_lt (Nat.mul_ne_zero hm hn)).2 this
 omega
theorem low_mul{K L:Int}{x y:Nat}{s t:Bool}{m n:Nat}{e j:Int}(hx:Format.read double x=.number s m e)(hy:Format.read double y=.number t n j)(h1:Low K m e)(h2:Low L n j)(h0:0≤K+L+1)(h9:K+L+1≤900) :
  ∃r m' e',Format.mul double x y=some r∧Format.read double r=.number (s ^^ t) m' e'∧Low (K+L+2) m' e':=by
 have hl:Low (K+L+1) (m*n) (e+j):=by
  rcases Nat.eq_zero_or_pos m with hm|hm
  ·exact .inl (by simp[hm])
  rcases Nat.eq_zero_or_pos n with hn|hn
  ·exact .inl (by simp[hn])
  right
  have a:e+(m.log2:Int)≤K:=by rcases h1 with h|h;omega;exact h
  have b:j+(n.log2:Int)≤L:=by rcases h2 with h|h;omega;exact h
  have:=log2_mul_le (m:=m) (n:=n) (by omega) (by omega)
  omega
 obtain⟨m',e',h3,h4⟩:=low_write (s:=s ^^ t) hl h0 h9
 exact⟨_,m',e',by unfold Format.mul;rw[hx,hy];rfl,h3,h4.mono (by omega)⟩
theorem signed_abs(s:Bool)(m up:Nat):(signed s m up).natAbs=m*2 ^ up:=by
 unfold signed
 rw[Nat.shiftLeft_eq]
 cases s <;> simp[Int.natAbs_mul,Int.natAbs_pow]
theorem low_add{K:Int}{x y:Nat}{s t:Bool}{m n:Nat}{e j:Int}(hx:Format.read double x=.number s m e)(hy:Format.read double y=.number t n j)(h1:Low K m e)(h2:Low K n j)(h0:0≤K)(h9:K≤899) :
  ∃r s' m' e',Format.add double x y=some r∧Format.read double r=.number s' m' e'∧Low (K+2) m' e':=by
 have part:∀(m:Nat) (e base:Int),Low K m e→base≤e→m*2 ^ (e - base).toNat<2 ^ (K+1 - base).toNat∨m=0:=by
  intro m e base h hb
  rcases Nat.eq_zero_or_pos m with hm|hm
  ·exact .inr hm
  left
  have a:e+(m.log2:Int)≤K:=by rcases h with h|h;omega;exact h
  have h2:m<2 ^ (m.log2+1):=Nat.lt_log2_self
  calc m*2 ^ (e - base).toNat<2 ^ (m.log2+1)*2 ^ (e - base).toNat:=Nat.mul_lt_mul_of_pos_right h2 (Nat.two_pow_pos _)
   _=2 ^ (m.log2+1+(e - base).toNat):=by rw[←Nat.pow_add]
   _≤2 ^ (K+1 - base).toNat:=Nat.pow_le_pow_right (by omega) (by omega)
 generalize hb:min e j=base
 have hl:Low (K+1) (signed s m (e - base).toNat+signed t n (j - base).toNat).natAbs base:=by
  rcases Nat.eq_zero_or_pos (signed s m (e - base).toNat+signed t n (j - base).toNat).natAbs with h|h
  ·exact .inl h
  right
  have tri:=Int.natAbs_add_le (signed s m (e - base).toNat) (signed t n (j - base).toNat)
  rw[signed_abs,signed_abs]at tri
  have hbound:(signed s m (e - base).toNat+signed t n (j - base).toNat).natAbs<2 ^ ((K+1 - base).toNat+1):=by
   rw[Nat.pow_succ]
   have p1:=part m e base h1 (by omega)
   have p2:=part n j base h2 (by omega)
   have pos:=Nat.two_pow_pos (K+1 - base).toNat
   rcases p1 with p1|p1 <;> rcases p2 with p2|p2
   ·omega
   ·subst p2;simp only[Nat.zero_mul]at tri;omega
   ·subst p1;simp only[Nat.zero_mul]at tri;omega
   ·subst p1;subst p2;simp only[Nat.zero_mul]at tri;omega
  have:=(Nat.log2_lt (by omega)).2 hbound
  have hK:0≤K+1 - base:=by
   apply Classical.byContradiction
   intro hc
   have p1:=part m e base h1 (by omega)
   have p2:=part n j base h2 (by omega)
   rw[show(K+1 - base).toNat=0 by omega]at p1 p2
   have q1:m=0:=by
    rcases p1 with p1|p1
    ·have:=Nat.two_pow_pos (e - base).toNat
     rcases Nat.eq_zero_or_pos m with h|h
     ·exact h
     ·have:=Nat.mul_pos h this;omega
    ·exact p1
   have q2:n=0:=by
    rcases p2 with p2|p2
    ·have:=Nat.two_pow_pos (j - base).toNat
     rcases Nat.eq_zero_or_pos n with h|h
     ·exact h
     ·have:=Nat.mul_pos h this;omega
    ·exact p2
   subst q1;subst q2;simp only[Nat.zero_mul]at tri;omega
  omega
 obtain⟨m',e',h3,h4⟩:=low_write (s:=if signed s m (e - base).toNat+signed t n (j - base).toNat=0 then s && t else decide (signed s m (e - base).toNat+signed t n (j - base).toNat<0)) hl (by omega) (by omega)
 refine⟨_,_,m',e',?_,h3,h4.mono (by omega)⟩
 unfold Format.add
 rw[hx,hy]
 simp only[Datum.sum,hb,Option.map_some]
theorem low_int{K:Int}{s:Bool}{m:Nat}{e:Int}(h:Low K m e)(h0:0≤K):∃z,Datum.toInt .zero (.number s m e)=some z∧z.natAbs<2 ^ (K+1).toNat:=by
 refine⟨_,rfl,?_⟩
 rw[signed_abs,Nat.pow_zero,Nat.mul_one]
 unfold Toward.cut
 simp only[Bool.toNat_false,Nat.add_zero]
 have hn:m <<< e.toNat<2 ^ (K+1).toNat*2 ^ (-e).toNat:=by
  rw[Nat.shiftLeft_eq]
  rcases Nat.eq_zero_or_pos m with hm|hm
  ·subst hm;rw[Nat.zero_mul];exact Nat.mul_pos (Nat.two_pow_pos _) (Nat.two_pow_pos _)
  have a:e+(m.log2:Int)≤K:=by rcases h with h|h;omega;exact h
  have h2:m<2 ^ (m.log2+1):=Nat.lt_log2_self
  calc m*2 ^ e.toNat<2 ^ (m.log2+1)*2 ^ e.toNat:=Nat.mul_lt_mul_of_pos_right h2 (Nat.two_pow_pos _)
   _=2 ^ (m.log2+1+e.toNat):=by rw[←Nat.pow_add]
   _≤2 ^ ((K+1).toNat+(-e).toNat):=Nat.pow_le_pow_right (by omega) (by omega)
   _=_:=by rw[Nat.pow_add]
 generalize m <<< e.toNat=n at *
 rw[Nat.shiftLeft_eq,Nat.one_mul]
 rcases Nat.le_total (-e).toNat (n.log2+2)with hd|hd
 ·rw[Nat.min_eq_left hd]
  exact(Nat.div_lt_iff_lt_mul (Nat.two_pow_pos _)).2 hn
 ·rw[Nat.min_eq_right hd]
  have:n<2 ^ (n.log2+2):=Nat.lt_of_lt_of_le Nat.lt_log2_self (Nat.pow_le_pow_right (by omega) (by omega))
  rw[Nat.div_eq_of_lt this];exact Nat.two_pow_pos _
theorem low_order{x y:Nat}{m n:Nat}{e j:Int}(hx:Format.read double x=.number false m e)(hy:Format.read double y=.number false n j)(h:Format.order double x y=some .lt):Low (j+(n.log2:Int)) m e:=by
 unfold Format.order at h
 rw[hx,hy]at h
 simp only[Datum.order,signed,Bool.false_eq_true,if_false,Option.some.injEq]at h
 rcases Nat.eq_zero_or_pos m with hm|hm
 ·exact .inl hm
 right
 generalize hb:min e j=base at h
 rw[Nat.shiftLeft_eq,Nat.shiftLeft_eq]at h
 have hlt:m*2 ^ (e - base).toNat<n*2 ^ (j - base).toNat:=by
  have hi:((m*2 ^ (e - base).toNat:Nat):Int)<((n*2 ^ (j - base).toNat:Nat):Int):=by
   apply Classical.byContradiction
   intro hc
   simp only[compare,compareOfLessAndEq,if_neg hc]at h
   split at h <;> cases h
  omega
 have h1:2 ^ m.log2≤m:=Nat.log2_self_le (by omega)
 have h2:n<2 ^ (n.log2+1):=Nat.lt_log2_self
 have h3:2 ^ (m.log2+(e - base).toNat)<2 ^ (n.log2+1+(j - base).toNat):=by
  calc 2 ^ (m.log2+(e - base).toNat)=2 ^ m.log2*2 ^ (e - base).toNat:=by rw[Nat.pow_add]
   _≤m*2 ^ (e - base).toNat:=Nat.mul_le_mul_right _ h1
   _<n*2 ^ (j - base).toNat:=hlt
   _≤2 ^ (n.log2+1)*2 ^ (j - base).toNat:=Nat.mul_le_mul_right _ (Nat.le_of_lt h2)
   _=2 ^ (n.log2+1+(j - base).toNat):=(Nat.pow_add 2 (n.log2+1) (j - base).toNat).symm
 have h4:=(Nat.pow_lt_pow_iff_right (a:=2) (by omega)).1 h3
 omega
theorem read_e9:Format.read double 4741671816366391296=.number false 8388608000000000 (-23):=by decide
theorem read_e6:Format.read double 4696837146684686336=.number false 8589934592000000 (-33):=by decide
theorem read_half:Format.read double 4602678819172646912=.number false 4503599627370496 (-53):=by decide
theorem read_zero:Format.read double 0=.number false 0 (-1074):=by decide
theorem read_neg{b:Nat}(hb:b<2 ^ 64):Format.read double (b ^^^ 2 ^ 63)=(Format.read double b).opposite:=by
 have h1:(b ^^^ 2 ^ 63) % 2 ^ 63=b % 2 ^ 63:=by rw[Nat.xor_mod_two_pow];simp
 have h2:(b ^^^ 2 ^ 63) / 2 ^ 63=(b / 2 ^ 63) ^^^ 1:=by rw[Nat.xor_div_two_pow]
 have hsw:Format.signWeight double=2 ^ 63:=rfl
 have hneg:((b ^^^ 2 ^ 63) / 2 ^ 63 % 2 == 1) = !(b / 2 ^ 63 % 2 == 1):=by
  rw[h2]
  have hq:b / 2 ^ 63=0∨b / 2 ^ 63=1:=by omega
  rcases hq with hq|hq <;> rw[hq] <;> rfl
 unfold Format.read
 simp only[hsw,h1,hneg]
 split
 ·rfl
 ·split
  ·rfl
  ·split <;> rfl
theorem told_ok{a:Nat}(h:Format.order double a 4741671816366391296=some .lt)(hs:∀m e,Format.read double a=.number true m e→m=0)(hi:Format.read double a≠.infinity true) :
  ∃r1 r2 z,Format.mul double a 4696837146684686336=some r1∧Format.add double r1 4602678819172646912=some r2∧(Format.read double r2).toInt .zero=some z∧z.natAbs<2 ^ 60:=by
 have key:∃s m e,Format.read double a=.number s m e∧Low 29 m e:=by
  cases hr:Format.read double a with
  | nan s t=>unfold Format.order at h;rw[hr]at h;simp[Datum.order]at h
  | infinity s =>
   unfold Format.order at h
   rw[hr,read_e9]at h
   cases s
   ·simp[Datum.order]at h
   ·exact absurd hr hi
  | number s m e =>
   refine⟨s,m,e,rfl,?_⟩
   cases s with
   | true=>exact .inl (hs m e hr)
   | false =>
    have:=low_order hr read_e9 h
    exact this.mono (by decide)
 obtain⟨s,m,e,h1,h2⟩:=key
 obtain⟨r1,m1,e1,a1,a2,a3⟩:=low_mul h1 read_e6 h2 (L:=20) (.inr (by decide)) (by omega) (by omega)
 obtain⟨r2,s2,m2,e2,b1,b2,b3⟩:=low_add a2 read_half (a3.mono (by omega:_≤(52:Int))) (.inr (by decide)) (by omega) (by omega)
 obtain⟨z,c1,c2⟩:=low_int (s:=s2) b3 (by omega)
 refine⟨r1,r2,z,a1,b1,by rw[b2];exact c1,Nat.lt_of_lt_of_le c2 (Nat.pow_le_pow_right (by omega) (by omega))⟩
theorem div_ok(k:Int)(hk:k.natAbs<2 ^ 64):∃q,Format.div double (FloatKind.nearest .f64 k) 4696837146684686336=some q:=by
 have hl:Low 64 k.natAbs 0:=by
  rcases Nat.eq_zero_or_pos k.natAbs with h|h
  ·exact .inl h
  ·have:=(Nat.log2_lt (by omega)).2 hk
   exact .inr (by omega)
 obtain⟨m,e,h1,h2⟩:=low_write (s:=decide (k<0)) hl (by omega) (by omega)
 have hd:∃d,Datum.quotient (double.fractionBits+2) (Format.read double (Format.write double (.number (decide (k<0)) k.natAbs 0))) (Format.read double 4696837146684686336)=some d:=by
  rw[h1,read_e6]
  exact⟨_,rfl⟩
 obtain⟨d,hd⟩:=hd
 refine⟨Format.write double d,?_⟩
 show(Datum.quotient (double.fractionBits+2) (Format.read double (Format.write double (.number (decide (k<0)) k.natAbs 0))) (Format.read double 4696837146684686336)).map _=_
 rw[hd];rfl
theorem pos_ok{b:Nat}(h:Format.order double b 0≠some .lt):(∀m e,Format.read double b=.number true m e→m=0)∧Format.read double b≠.infinity true:=by
 unfold Format.order at h
 rw[read_zero]at h
 constructor
 ·intro m e hr
  rw[hr]at h
  apply Classical.byContradiction
  intro hm
  apply h
  simp only[Datum.order,signed,Option.some.injEq]
  simp only[if_true,Bool.false_eq_true,if_false,Nat.zero_shiftLeft,Nat.shiftLeft_eq]
  have hp:0<m*2 ^ (e - min e (-1074)).toNat:=Nat.mul_pos (by omega) (Nat.two_pow_pos _)
  simp only[compare,compareOfLessAndEq]
  rw[if_pos (by omega)]
 ·intro hr
  rw[hr]at h
  exact h rfl
theorem neg_ok{b:Nat}(hb:b<2 ^ 64)(h:Format.order double b 0=some .lt)(h9:Format.order double (b ^^^ 2 ^ 63) 4741671816366391296=some .lt) :
  (∀m e,Format.read double (b ^^^ 2 ^ 63)=.number true m e→m=0)∧Format.read double (b ^^^ 2 ^ 63)≠.infinity true:=by
 have hn:=read_neg hb
 unfold Format.order at h
 rw[read_zero]at h
 constructor
 ·intro m e hr
  rw[hn]at hr
  cases hrb:Format.read double b with
  | nan s t=>rw[hrb]at hr;cases hr
  | infinity s=>rw[hrb]at hr;cases hr
  | number s m' e' =>
   rw[hrb]at hr h
   simp only[Datum.opposite,Datum.number.injEq,Bool.not_eq_true']at hr
   obtain⟨rfl,rfl,rfl⟩:=hr
   exfalso
   simp only[Datum.order,signed,Bool.false_eq_true,if_false,Option.some.injEq,Nat.zero_shiftLeft]at h
   generalize m' <<< (e' - min e' (-1074)).toNat=q at h
   simp only[compare,compareOfLessAndEq]at h
   rw[if_neg (by omega)]at h
   split at h <;> cases h
 ·intro hr
  rw[hn]at hr
  cases hrb:Format.read double b with
  | nan s t=>rw[hrb]at hr;cases hr
  | number s m' e'=>rw[hrb]at hr;cases hr
  | infinity s =>
   rw[hrb]at hr h
   cases s
   ·cases h
   ·cases hr
end Go.AM
namespace Go.AM
open Go.RowKit
variable {α:Type}
def sl(y:Nat):Nat→Value
 | 0=>.slice none 0 0
 | m+1=>.slice (some ⟨y,0,none⟩) (m+1:Nat) (m+1:Nat)
theorem sl_zero(y:Nat):sl y 0=.slice none 0 0:=rfl
theorem sl_pos{y m:Nat}(h:m≠0):sl y m=.slice (some ⟨y,0,none⟩) m m:=by
 cases m with
 | zero=>exact absurd rfl h
 | succ m=>rfl
def slp(y:Nat):Nat→Option Addr
 | 0=>none
 | _+1=>some ⟨y,0,none⟩
theorem sl_eq(y m:Nat):sl y m=.slice (slp y m) m m:=by cases m <;> rfl
theorem slp_pos{y m:Nat}(h:m≠0):slp y m=some ⟨y,0,none⟩:=by
 cases m with
 | zero=>exact absurd rfl h
 | succ m=>rfl
def llcells(ys:Nat→Nat)(ls:List (List α)):List Value:=ls.mapIdx fun v l=>sl (ys v) l.length
theorem llcells_length(ys:Nat→Nat)(ls:List (List α)):(llcells ys ls).length=ls.length:=by simp[llcells]
theorem llcells_at(ys:Nat→Nat){ls:List (List α)}{v:Nat}(h:v<ls.length):(llcells ys ls)[v]? = some (sl (ys v) ls[v].length):=by
 simp[llcells,h]
def upd(ys:Nat→Nat)(v y:Nat):Nat→Nat:=fun u=>if u=v then y else ys u
theorem upd_at(ys:Nat→Nat)(v y:Nat):upd ys v y v=y:=by simp[upd]
theorem upd_ne(ys:Nat→Nat)(v y:Nat){u:Nat}(h:u≠v):upd ys v y u=ys u:=by simp[upd,h]
theorem llcells_set(ys:Nat→Nat)(ls:List (List α))(v y:Nat)(l:List α):llcells (upd ys v y) (ls.set v l)=(llcells ys ls).set v (sl y l.length):=by
 apply List.ext_getElem?
 intro i
 simp only[llcells,List.getElem?_mapIdx,List.getElem?_set,List.length_mapIdx]
 by_cases hv:v=i
 ·subst hv
  by_cases hl:v<ls.length <;> simp[hl,upd_at]
 ·simp only[if_neg hv]
  cases ls[i]? with
  | none=>rfl
  | some l'=>simp[upd_ne ys v y (Ne.symm hv)]
theorem llcells_push(ys:Nat→Nat)(ls:List (List α))(y:Nat)(l:List α):llcells (upd ys ls.length y) (ls++[l])=llcells ys ls++[sl y l.length]:=by
 apply List.ext_getElem?
 intro i
 simp only[llcells,List.getElem?_mapIdx,List.getElem?_append,List.length_mapIdx]
 by_cases hi:i<ls.length
 ·simp[hi,upd_ne ys ls.length y (show i≠ls.length by omega)]
 ·simp only[if_neg hi]
  by_cases h0:i - ls.length=0
  ·have:i=ls.length:=by omega
   subst this;simp[upd_at]
  ·obtain⟨q,hq⟩:∃q,i - ls.length=q+1:=⟨i - ls.length - 1,by omega⟩
   simp[hq]
structure LL(m:Nat)(H:Heap)(x ty ety:Nat)(enc:α→List Value)(ls:List (List α))(ys:Nat→Nat):Prop where
 hx:H x=.cells (llcells ys ls) ty true
 hy:∀v (h:v<ls.length),ls[v]≠[]→H (ys v)=.cells (ls[v].flatMap enc) ety true
 inj:∀u v (hu:u<ls.length) (hv:v<ls.length),ls[u]≠[]→ls[v]≠[]→ys u=ys v→u=v
 fy:∀v (h:v<ls.length),ls[v]≠[]→m≤ys v
 ne:∀v (h:v<ls.length),ls[v]≠[]→ys v≠x
section
variable {m n n' x ty ety:Nat} {H H':Heap} {enc:α→List Value} {ls:List (List α)} {ys:Nat→Nat}
theorem LL.keep(h:LL m H x ty ety enc ls ys)(hk:∀z,z=x∨m≤z→H z≠.dead→H' z=H z):LL m H' x ty ety enc ls ys :=
 ⟨by rw[hk x (.inl rfl) (by rw[h.hx];intro e;cases e),h.hx],fun v hv hn=>by rw[hk _ (.inr (h.fy v hv hn)) (by rw[h.hy v hv hn];intro e;cases e),h.hy v hv hn],h.inj,h.fy,h.ne⟩
theorem live_lt(hw:WF n H){z:Nat}(h:H z≠.dead):z<n:=by
 apply Classical.byContradiction
 intro hc
 exact h (hw z (by omega))
theorem live_of{z:Nat}{cs:List Value}{t:TypeId}{own:Bool}(h:H z=.cells cs t own):H z≠.dead:=by rw[h];intro e;cases e
theorem LL.kp(h:LL m H x ty ety enc ls ys)(hw:WF n H)(hk:Kp n H n' H'):LL m H' x ty ety enc ls ys:=h.keep fun z _ hz=>hk.keep z (live_lt hw hz)
theorem LL.lty(h:LL m H x ty ety enc ls ys)(hw:WF n H){v:Nat}(hv:v<ls.length)(hn:ls[v]≠[]):ys v<n:=live_lt hw (live_of (h.hy v hv hn))
theorem LL.at(h:LL m H x ty ety enc ls ys){v:Nat}(hv:v<ls.length):(llcells ys ls)[v]? = some (sl (ys v) ls[v].length):=llcells_at ys hv
theorem LL.put(h:LL m H x ty ety enc ls ys){v y:Nat}{l:List α}(hy:l≠[]→H' y=.cells (l.flatMap enc) ety true)(hm:l≠[]→m≤y)(hyx:y≠x)
  (hx:H' x=.cells ((llcells ys ls).set v (sl y l.length)) ty true) (hnew:∀u (hu:u<ls.length),u≠v→ls[u]≠[]→ys u≠y)
  (hk:∀u (hu:u<ls.length),u≠v→ls[u]≠[]→H' (ys u)=H (ys u)):LL m H' x ty ety enc (ls.set v l) (upd ys v y):=by
 have key:∀u (hu:u<(ls.set v l).length),u≠v→∃hu':u<ls.length,(ls.set v l)[u]=ls[u]:=fun u hu hne=>⟨by simpa using hu,by rw[List.getElem_set_ne (Ne.symm hne)]⟩
 refine⟨by rw[hx,llcells_set],fun u hu hn=>?_,fun u w hu hw hn hn' e=>?_,fun u hu hn=>?_,fun u hu hn=>?_⟩
 ·by_cases e:u=v
  ·subst e
   simp only[List.getElem_set_self]at hn ⊢
   rw[upd_at];exact hy hn
  ·obtain⟨hu',e'⟩:=key u hu e
   rw[e']at hn ⊢
   rw[upd_ne _ _ _ e,hk u hu' e hn]
   exact h.hy u hu' hn
 ·by_cases e1:u=v
  ·by_cases e2:w=v
   ·omega
   ·exfalso
    obtain⟨hw',e'⟩:=key w hw e2
    rw[e']at hn'
    rw[e1,upd_at,upd_ne _ _ _ e2]at e
    exact hnew w hw' e2 hn' e.symm
  ·obtain⟨hu',e'⟩:=key u hu e1
   rw[e']at hn
   by_cases e2:w=v
   ·exfalso
    rw[e2,upd_at,upd_ne _ _ _ e1]at e
    exact hnew u hu' e1 hn e
   ·obtain⟨hw',e''⟩:=key w hw e2
    rw[e'']at hn'
    rw[upd_ne _ _ _ e1,upd_ne _ _ _ e2]at e
    exact h.inj u w hu' hw' hn hn' e
 ·by_cases e:u=v
  ·subst e
   simp only[List.getElem_set_self]at hn
   rw[upd_at];exact hm hn
  ·obtain⟨hu',e'⟩:=key u hu e
   rw[e']at hn
   rw[upd_ne _ _ _ e];exact h.fy u hu' hn
 ·by_cases e:u=v
  ·subst e;rw[upd_at];exact hyx
  ·obtain⟨hu',e'⟩:=key u hu e
   rw[e']at hn
   rw[upd_ne _ _ _ e];exact h.ne u hu' hn
theorem LL.push(h:ls≠[]→LL m H x ty ety enc ls ys){x' y:Nat}{l:List α}(hy:l≠[]→H' y=.cells (l.flatMap enc) ety true)(hm:l≠[]→m≤y)(hyx:l≠[]→y≠x')
  (hx:H' x'=.cells (llcells ys ls++[sl y l.length]) ty true) (hnew:∀u (hu:u<ls.length),ls[u]≠[]→ys u≠y) (hx':∀u (hu:u<ls.length),ls[u]≠[]→ys u≠x')
  (hk:∀u (hu:u<ls.length),ls[u]≠[]→H' (ys u)=H (ys u)):LL m H' x' ty ety enc (ls++[l]) (upd ys ls.length y):=by
 have ne:∀u,u<ls.length→ls≠[]:=fun u hu e=>by rw[e]at hu;simp at hu
 have key:∀u (hu:u<(ls++[l]).length),(∃h:u<ls.length,(ls++[l])[u]=ls[u])∨u=ls.length∧(ls++[l])[u]=l:=by
  intro u hu
  by_cases e:u<ls.length
  ·exact .inl ⟨e,List.getElem_append_left e⟩
  ·have:u=ls.length:=by simp at hu;omega
   subst this
   exact .inr ⟨rfl,by simp⟩
 refine⟨by rw[hx,llcells_push],fun u hu hn=>?_,fun u w hu hw hn hn' e=>?_,fun u hu hn=>?_,fun u hu hn=>?_⟩
 ·rcases key u hu with⟨h1,e1⟩|⟨rfl,e1⟩
  ·rw[e1]at hn ⊢
   rw[upd_ne _ _ _ (by omega),hk u h1 hn]
   exact(h (ne u h1)).hy u h1 hn
  ·rw[e1]at hn ⊢
   rw[upd_at];exact hy hn
 ·rcases key u hu with⟨h1,e1⟩|⟨rfl,e1⟩ <;> rcases key w hw with⟨h2,e2⟩|⟨rfl,e2⟩
  ·rw[e1]at hn;rw[e2]at hn'
   rw[upd_ne _ _ _ (by omega),upd_ne _ _ _ (by omega)]at e
   exact(h (ne u h1)).inj u w h1 h2 hn hn' e
  ·rw[e1]at hn
   rw[upd_ne _ _ _ (by omega),upd_at]at e
   exact absurd e (hnew u h1 hn)
  ·rw[e2]at hn'
   rw[upd_at,upd_ne _ _ _ (by omega)]at e
   exact absurd e.symm (hnew w h2 hn')
  ·rfl
 ·rcases key u hu with⟨h1,e1⟩|⟨rfl,e1⟩
  ·rw[e1]at hn
   rw[upd_ne _ _ _ (by omega)];exact(h (ne u h1)).fy u h1 hn
  ·rw[e1]at hn
   rw[upd_at];exact hm hn
 ·rcases key u hu with⟨h1,e1⟩|⟨rfl,e1⟩
  ·rw[e1]at hn
   rw[upd_ne _ _ _ (by omega)];exact hx' u h1 hn
  ·rw[e1]at hn
   rw[upd_at];exact hyx hn
end
theorem rep_nil(k:Nat):rep k [Value.slice none 0 0]=llcells (fun _=>0) (List.replicate k ([]:List α)):=by
 apply List.ext_getElem?
 intro i
 have e:rep k [Value.slice none 0 0]=List.replicate k (.slice none 0 0):=by
  induction k with
  | zero=>rfl
  | succ k ih=>rw[List.replicate_succ,←ih];rfl
 rw[e,List.getElem?_replicate]
 simp only[llcells,List.getElem?_mapIdx,List.getElem?_replicate]
 split <;> rfl
theorem LL.new{m x ty ety:Nat}{H:Heap}{enc:α→List Value}{k:Nat}(hx:H x=.cells (rep k [Value.slice none 0 0]) ty true):LL m H x ty ety enc (List.replicate k ([]:List α)) (fun _=>0):=by
 have key:∀v (h:v<(List.replicate k ([]:List α)).length),(List.replicate k ([]:List α))[v]=[]:=fun v h=>by simp
 exact⟨by rw[hx,rep_nil],fun v h hn=>absurd (key v h) hn,fun u v hu hv hn=>absurd (key u hu) hn,fun v h hn=>absurd (key v h) hn,fun v h hn=>absurd (key v h) hn⟩
end Go.AM
namespace Go.AM
inductive Nul(g:Gram):Int→Prop
 | mk (i:Nat) (h:i<g.rules.length) (h0:∀s∈g.rules[i].right,0≤s) (h1:∀s∈g.rules[i].right,Nul g s):Nul g g.rules[i].left
inductive Prd(g:Gram):Int→Prop
 | mk (i:Nat) (h:i<g.rules.length) (h1:∀s∈g.rules[i].right,0≤s→Prd g s):Prd g g.rules[i].left
inductive Der(rb:GRule→List Bool→Bool)(rules:List GRule)(hs:List Bool):List Bool→Prop
 | refl:Der rb rules hs hs
 | step {h1:List Bool} (d:Der rb rules hs h1) (r:GRule) (hr:r∈rules) (hb:rb r h1=true):Der rb rules hs (h1.set r.left.toNat true)
def nulB(right:List Int)(hs:List Bool):Bool:=right.all fun s=>decide (0≤s) && hs.getD s.toNat false
def prdB(right:List Int)(hs:List Bool):Bool:=right.all fun s=>decide (s<0) || hs.getD s.toNat false
structure InG(g:Gram):Prop where
 left0:∀r∈g.rules,0≤r.left
 left1:∀r∈g.rules,r.left<g.vars.length
 right:∀r∈g.rules,∀s∈r.right,s<g.vars.length
 rightT:∀r∈g.rules,∀s∈r.right,s<0 → -s - 1<g.terms.length
def hold(hs:List Bool)(v:Int):Prop:=0≤v∧hs.getD v.toNat false=true
theorem nulB_hold{right:List Int}{hs:List Bool}:nulB right hs=true↔∀s∈right,hold hs s:=by
 unfold nulB hold
 rw[List.all_eq_true]
 simp
theorem prdB_hold{right:List Int}{hs:List Bool}:prdB right hs=true↔∀s∈right,0≤s→hold hs s:=by
 unfold prdB hold
 rw[List.all_eq_true]
 constructor
 ·intro h s hs h0
  have:=h s hs
  simp at this
  exact⟨h0,by rcases this with h|h;omega;simpa using h⟩
 ·intro h s hs
  rcases Int.lt_or_le s 0 with h0|h0
  ·simp[h0]
  ·have:=(h s hs h0).2
   simp at this
   simp[this]
theorem closed_nul{g:Gram}(hg:InG g){hs:List Bool}(hc:∀r∈g.rules,hs.getD r.left.toNat false=true∨nulB r.right hs=false):∀v,Nul g v→hold hs v:=by
 intro v h
 induction h with
 | mk i h h0 h1 ih =>
  have hm:=List.getElem_mem h
  rcases hc _ hm with e|e
  ·exact⟨hg.left0 _ hm,e⟩
  ·rw[nulB_hold.2 fun s hs=>ih s hs]at e;cases e
theorem closed_prd{g:Gram}(hg:InG g){hs:List Bool}(hc:∀r∈g.rules,hs.getD r.left.toNat false=true∨prdB r.right hs=false):∀v,Prd g v→hold hs v:=by
 intro v h
 induction h with
 | mk i h h1 ih =>
  have hm:=List.getElem_mem h
  rcases hc _ hm with e|e
  ·exact⟨hg.left0 _ hm,e⟩
  ·rw[prdB_hold.2 fun s hs h0=>ih s hs h0]at e;cases e
structure Edg(g:Gram)(v:Int)(i at_:Nat)(u:Int):Prop where
 hi:i<g.rules.length
 left:g.rules[i].left=v
 hat:g.rules[i].right[at_]? = some u
 u0:0≤u
 nul:∀q,q<at_→∀s,g.rules[i].right[q]? = some s→Nul g s
def Beg(g:Gram)(v u:Int):Prop:=∃i at_,Edg g v i at_ u
inductive Rch(g:Gram)(v:Int):Int→Prop
 | one {u:Int} (h:Beg g v u):Rch g v u
 | more {u w:Int} (h:Rch g v u) (k:Beg g u w):Rch g v w
end Go.AM
namespace Go.AM
structure GoodRow(g:Gram)(v:Nat)(r:List Bool):Prop where
 len:r.length=g.vars.length
 mem:∀u:Nat,r[u]? = some true↔Rch g v u
structure Work(g:Gram)(v:Nat)(r:List Bool)(todo:List Nat)(busy:Nat→Prop):Prop where
 sound:∀u:Nat,r[u]? = some true→Rch g v u
 known:∀u,u∈todo→u=v∨r[u]? = some true
 closed:∀u:Nat,u=v∨r[u]? = some true→u∈todo∨busy u∨∀w:Nat,Beg g u w→r[w]? = some true
end Go.AM
namespace Go.AM
structure RoundTo(rb:GRule→List Bool→Bool)(rules:List GRule)(k:Nat)(hs nx:List Bool):Prop where
 len:nx.length=hs.length
 mem:∀v:Nat,v<hs.length→(nx.getD v false=true↔hs.getD v false=true∨∃i,∃h:i<rules.length,i<k∧rules[i].left=v∧rb rules[i] hs=true)
def ClosedR(rb:GRule→List Bool→Bool)(rules:List GRule)(hs:List Bool):Prop:=∀r∈rules,hs.getD r.left.toNat false=true∨rb r hs=false
theorem RoundTo.start(rb:GRule→List Bool→Bool)(rules:List GRule)(hs:List Bool):RoundTo rb rules 0 hs hs:=by
 refine⟨rfl,fun v hv=>⟨.inl,?_⟩⟩
 rintro(h|⟨i,_,h,_⟩)
 ·exact h
 ·omega
theorem RoundTo.skip{rb:GRule→List Bool→Bool}{rules:List GRule}{k:Nat}{hs nx:List Bool}(h:RoundTo rb rules k hs nx)(hk:k<rules.length)(hb:rb rules[k] hs=false):RoundTo rb rules (k+1) hs nx:=by
 refine⟨h.len,fun v hv=>(h.mem v hv).trans ?_⟩
 constructor
 ·rintro(e|⟨i,h1,h2,h3⟩)
  ·exact .inl e
  ·exact .inr ⟨i,h1,by omega,h3⟩
 ·rintro(e|⟨i,h1,h2,h3,h4⟩)
  ·exact .inl e
  ·by_cases e:i=k
   ·subst e;rw[hb]at h4;cases h4
   ·exact .inr ⟨i,h1,by omega,h3,h4⟩
theorem RoundTo.take{rb:GRule→List Bool→Bool}{rules:List GRule}{k l:Nat}{hs nx:List Bool}(h:RoundTo rb rules k hs nx)(hk:k<rules.length)(hl:rules[k].left=l)(hll:l<hs.length)(hb:rb rules[k] hs=true):RoundTo rb rules (k+1) hs (nx.set l true):=by
 refine⟨by rw[List.length_set,h.len],fun v hv=>?_⟩
 have hvn:v<nx.length:=by rw[h.len];exact hv
 rw[List.getD_eq_getElem?_getD,List.getElem?_set]
 by_cases e:l=v
 ·subst e
  simp[hvn]
  exact .inr ⟨k,by omega,hk,hl,hb⟩
 ·rw[if_neg e,←List.getD_eq_getElem?_getD,h.mem v hv]
  constructor
  ·rintro(e|⟨i,h1,h2,h3⟩)
   ·exact .inl e
   ·exact .inr ⟨i,h1,by omega,h3⟩
  ·rintro(e'|⟨i,h1,h2,h3,h4⟩)
   ·exact .inl e'
   ·by_cases e2:i=k
    ·subst e2
     rw[hl]at h3
     exact absurd (by omega) e
    ·exact .inr ⟨i,h1,by omega,h3,h4⟩
theorem count_le_of{hs nx:List Bool}(hl:nx.length=hs.length)(h:∀v,v<hs.length→hs.getD v false=true→nx.getD v false=true):hs.count true≤nx.count true:=by
 induction hs generalizing nx with
 | nil=>simp
 | cons a hs ih =>
  match nx,hl with
  | b::nx,hl =>
   have h0:=h 0 (by simp)
   have h1:=ih (nx:=nx) (by simpa using hl) (fun v hv e=>by
    have:=h (v+1) (by simpa using hv) (by simpa using e)
    simpa using this)
   simp at h0
   cases a <;> cases b <;> simp_all <;> omega
theorem count_lt_of{hs nx:List Bool}(hl:nx.length=hs.length)(h:∀v,v<hs.length→hs.getD v false=true→nx.getD v false=true){w:Nat}(hw:w<hs.length)(h1:hs.getD w false=false)(h2:nx.getD w false=true):hs.count true<nx.count true:=by
 induction hs generalizing nx w with
 | nil=>simp at hw
 | cons a hs ih =>
  match nx,hl with
  | b::nx,hl =>
   have h0:=h 0 (by simp)
   have hr:∀v,v<hs.length→hs.getD v false=true→nx.getD v false=true:=fun v hv e=>by
    have:=h (v+1) (by simpa using hv) (by simpa using e)
    simpa using this
   cases w with
   | zero =>
    simp at h1 h2
    subst h1 h2
    have:=count_le_of (by simpa using hl) hr
    simp;omega
   | succ w =>
    have:=ih (nx:=nx) (w:=w) (by simpa using hl) hr (by simpa using hw) (by simpa using h1) (by simpa using h2)
    simp at h0
    cases a <;> cases b <;> simp_all <;> omega
theorem RoundTo.next {rb : GRule → List Bool → Bool} {rules : List GRule} {hs nx : List Bool} {n : Nat} (h : RoundTo rb rules rules.length hs nx) (hleft : ∀ r ∈ rules, 0 ≤ r.left ∧ r.left < hs.length) (hp : ClosedR rb rules hs ∨ n ≤ hs.count true) :
    ClosedR rb rules nx ∨ n + 1 ≤ nx.count true := by
  have up : ∀ v, v < hs.length → hs.getD v false = true → nx.getD v false = true := fun v hv e => (h.mem v hv).2 (.inl e)
  by_cases hc : ClosedR rb rules hs
  · left
    have e : nx = hs := by
      apply List.ext_getElem?
      intro i
      by_cases hi : i < hs.length
      · have hin : i < nx.length := by rw [h.len]; exact hi
        have := h.mem i hi
        rw [List.getElem?_eq_getElem hi, List.getElem?_eq_getElem hin]
        simp only [List.getD_eq_getElem?_getD, List.getElem?_eq_getElem hi, List.getElem?_eq_getElem hin, Option.getD_some] at this
        congr 1
        rw [Bool.eq_iff_iff, this]
        refine ⟨?_, .inl⟩
        rintro (e | ⟨q, h1, _, h3, h4⟩)
        · exact e
        · rcases hc _ (List.getElem_mem h1) with e | e
          · rw [h3] at e
            simpa [hi] using e
          · rw [e] at h4; cases h4
      · rw [List.getElem?_eq_none (l := nx) (by rw [h.len]; omega), List.getElem?_eq_none (l := hs) (by omega)]
    rw [e]; exact hc
  · right
    rcases hp with hp | hp
    · exact absurd hp hc
    · have : ∃ r ∈ rules, hs.getD r.left.toNat false = false ∧ rb r hs = true := by
        apply Classical.byContradiction
        intro hn
        refine hc fun r hr => ?_
        by_cases e1 : hs.getD r.left.toNat false = true
        · exact .inl e1
        · by_cases e2 : rb r hs = true
          · exact absurd ⟨r, hr, by simpa using e1, e2⟩ hn
          · exact .inr (by simpa using e2)
      obtain ⟨r, hr, e1, e2⟩ := this
      obtain ⟨i, hi, rfl⟩ := List.getElem_of_mem hr
      have hl := hleft _ hr
      have hw : rules[i].left.toNat < hs.length := by omega
      have := count_lt_of h.len up hw e1 ((h.mem _ hw).2 (.inr ⟨i, hi, hi, by omega, e2⟩))
      omega
theorem closed_full{rb:GRule→List Bool→Bool}{rules:List GRule}{hs:List Bool}(hleft:∀r∈rules,0≤r.left∧r.left<hs.length)(hp:ClosedR rb rules hs∨hs.length≤hs.count true):ClosedR rb rules hs:=by
 rcases hp with h|h
 ·exact h
 ·intro r hr
  left
  have hl:=hleft r hr
  have hall:∀b∈hs,true=b:=List.count_eq_length.1 (Nat.le_antisymm List.count_le_length h)
  have hw:r.left.toNat<hs.length:=by omega
  rw[List.getD_eq_getElem?_getD,List.getElem?_eq_getElem hw]
  exact(hall _ (List.getElem_mem hw)).symm
end Go.AM
namespace Go.AM
def neg(s:Int):Bool:=decide (s<0)
structure Laid(done pend:List Int):Prop where
 done:∀s∈done,s<0
 pend:∀s,pend[0]? = some s→0≤s
end Go.AM
namespace Go.AM
def farN:Nat:=1073741824
inductive WdL(g:Gram):List Int→Nat→Prop
 | nil:WdL g [] 0
 | term {s:Int} {rest:List Int} {n:Nat} (h:s<0) (k:WdL g rest n):WdL g (s::rest) (n+1)
 | var {i:Nat} (h:i<g.rules.length) {rest:List Int} {a b:Nat} (x:WdL g g.rules[i].right a) (k:WdL g rest b):WdL g (g.rules[i].left::rest) (a+b)
def sumC(c:Nat→Nat):List Int→Nat
 | []=>0
 | s::rest=>(if s<0 then 1 else c s.toNat)+sumC c rest
def allDone(d:Nat→Bool)(l:List Int):Prop:=∀s∈l,0≤s→d s.toNat=true
inductive Ranked(g:Gram)(c:Nat→Nat)(best:Nat→Int):List Nat→Prop
 | nil:Ranked g c best []
 | snoc {l:List Nat} {v i:Nat} (h:Ranked g c best l) (hv:v∉l) (hi:i<g.rules.length) (hb:best v=(i:Int)) (hl:g.rules[i].left=(v:Int)) (hr:∀s∈g.rules[i].right,0≤s→s.toNat∈l) (hc:c v=sumC c g.rules[i].right) (hf:c v<farN):Ranked g c best (l++[v])
structure Dij(g:Gram)(c:Nat→Nat)(d:Nat→Bool):Prop where
 least:∀v k,v<g.vars.length→d v=true→WdL g [(v:Int)] k→c v≤k
 relax:∀i (h:i<g.rules.length),d g.rules[i].left.toNat=false→allDone d g.rules[i].right→sumC c g.rules[i].right<farN→c g.rules[i].left.toNat≤sumC c g.rules[i].right
end Go.AM
namespace Go.AM
structure CInv(g:Gram)(c:Nat→Nat)(b:Nat→Int)(d:Nat→Bool)(ord:List Nat)(i:Nat):Prop where
 ranked:Ranked g c b ord
 done:∀v,v<g.vars.length→(d v=true↔v∈ord)
 least:∀v k,v<g.vars.length→d v=true→WdL g [(v:Int)] k→c v≤k
 cap:∀v,v<g.vars.length→c v≤farN
 ach:∀v,v<g.vars.length→d v=false→c v<farN→∃i,∃h:i<g.rules.length,b v=(i:Int)∧g.rules[i].left=(v:Int)∧(∀s∈g.rules[i].right,0≤s→s.toNat∈ord)∧c v=sumC c g.rules[i].right
 relax:∀j (h:j<g.rules.length),j<i→d g.rules[j].left.toNat=false→allDone d g.rules[j].right→sumC c g.rules[j].right<farN→c g.rules[j].left.toNat≤sumC c g.rules[j].right
section
variable {g:Gram} {c:Nat→Nat} {b:Nat→Int} {d:Nat→Bool} {ord:List Nat} {i:Nat}
structure CostOK(g:Gram)(c:Nat→Nat)(b:Nat→Int):Prop where
 ranked:∃ord,Ranked g c b ord∧∀v,v<g.vars.length→v∈ord∨v∉ord∧c v=farN∧b v = -1
 least:∀v k,v<g.vars.length→WdL g [(v:Int)] k→c v≤k∨farN≤k∧c v=farN
end
end Go.AM
namespace Go.AM
inductive Pre(g:Gram)(b:Nat→Int):List Int→List Int→Prop
 | nil:Pre g b [] []
 | term {s:Int} {rest d:List Int} (h:s<0) (k:Pre g b rest d):Pre g b (s::rest) d
 | var {i v:Nat} (hi:i<g.rules.length) (hb:b v=(i:Int)) (hl:g.rules[i].left=(v:Int)) {rest d1 d2:List Int} (x:Pre g b g.rules[i].right d1) (k:Pre g b rest d2):Pre g b ((v:Int)::rest) ((i:Int)::(d1++d2))
inductive PreE(g:Gram):List Int→List Int→Prop
 | nil:PreE g [] []
 | var {i:Nat} (hi:i<g.rules.length) {rest d1 d2:List Int} (x:PreE g g.rules[i].right d1) (k:PreE g rest d2):PreE g (g.rules[i].left::rest) ((i:Int)::(d1++d2))
structure Slow(g:Gram)(F:Nat→Nat→Nat):Prop where
 up:∀k v,F k v≤F (k+1) v
 rule:∀k i (h:i<g.rules.length),k<g.vars.length→(∀s∈g.rules[i].right,0≤s∧1≤F k s.toNat)→1+sumC (F k) g.rules[i].right≤F (k+1) g.rules[i].left.toNat
end Go.AM
namespace Go.AM
inductive Usd(g:Gram):Int→Prop
 | base (h:Prd g 0):Usd g 0
 | step (i:Nat) (h:i<g.rules.length) (hu:Usd g g.rules[i].left) (hp:∀s∈g.rules[i].right,0≤s→Prd g s) {s:Int} (hs:s∈g.rules[i].right) (h0:0≤s):Usd g s
def UClosed(g:Gram)(ws o:List Bool):Prop:=∀r∈g.rules,hold o r.left→prdB r.right ws=true→∀s∈r.right,0≤s→hold o s
theorem usd_of{g:Gram}{ws o:List Bool}(hws:∀v,hold ws v↔Prd g v)(hsound:∀v,hold o v→Usd g v)(hb:Prd g 0→hold o 0)(hc:UClosed g ws o)(v:Int):hold o v↔Usd g v:=by
 refine⟨hsound v,fun h=>?_⟩
 induction h with
 | base h=>exact hb h
 | step i h hu hp hs h0 ih=>exact hc _ (List.getElem_mem h) ih (prdB_hold.2 fun s hs h0=>(hws s).2 (hp s hs h0)) _ hs h0
theorem hold_nat{l:List Bool}{u:Nat}:hold l (u:Int)↔l[u]? = some true:=by
 unfold hold
 rw[Int.toNat_natCast,List.getD_eq_getElem?_getD]
 cases l[u]? with
 | none=>simp
 | some b=>simp
theorem hold_setI{l:List Bool}{i:Nat}(hi:i<l.length){v:Int}:hold (l.set i true) v↔v=(i:Int)∨hold l v:=by
 unfold hold
 simp only[List.getD_eq_getElem?_getD,List.getElem?_set]
 by_cases e:i=v.toNat
 ·subst e
  simp only[if_true,hi,Option.getD_some,and_true]
  constructor
  ·intro h;left;omega
  ·rintro(h|h)
   ·omega
   ·exact h.1
 ·rw[if_neg e]
  constructor
  ·exact .inr
  ·rintro(h|h)
   ·omega
   ·exact h
structure UWork(g:Gram)(ws r:List Bool)(todo:List Nat)(busy:Nat→Prop):Prop where
 sound:∀u:Int,hold r u→Usd g u
 known:∀u,u∈todo→hold r (u:Nat)
 base:hold r 0
 closed:∀u:Nat,hold r u→u∈todo∨busy u∨∀q∈g.rules,q.left=(u:Int)→prdB q.right ws=true→∀s∈q.right,0≤s→hold r s
def RUr(ws o:List Bool)(r:GRule)(j:Nat):Prop:=hold o r.left→prdB r.right ws=true→∀(p:Nat) (s:Int),p<j→r.right[p]? = some s→0≤s→hold o s
structure RU(g:Gram)(ws o0 o:List Bool)(k j:Nat):Prop where
 len:o.length=o0.length
 sound:∀v,hold o v→Usd g v
 mono:∀v,hold o0 v→hold o v
 stay:UClosed g ws o0→∀v,hold o v→hold o0 v
 prog:(o=o0∧(∀(i:Nat) (h:i<g.rules.length),i<k→RUr ws o0 g.rules[i] g.rules[i].right.length)∧∀h:k<g.rules.length,RUr ws o0 g.rules[k] j)∨o0.count true<o.count true
theorem RUr.zero(ws o:List Bool)(r:GRule):RUr ws o r 0:=fun _ _ _ _ h=>absurd h (Nat.not_lt_zero _)
section
variable {g:Gram} {ws o0 o:List Bool} {k j:Nat}
theorem RU.start(hs:∀v,hold o0 v→Usd g v):RU g ws o0 o0 0 0:=⟨rfl,hs,fun _ h=>h,fun _ _ h=>h,.inl ⟨rfl,fun i h hi=>absurd hi (Nat.not_lt_zero _),fun _=>.zero _ _ _⟩⟩
theorem RU.skip(h:RU g ws o0 o k j)(hk:k<g.rules.length){s:Int}(hs:g.rules[k].right[j]? = some s)(hn:¬(0≤s∧hold o g.rules[k].left∧prdB g.rules[k].right ws=true)):RU g ws o0 o k (j+1):=by
 refine⟨h.len,h.sound,h.mono,h.stay,?_⟩
 rcases h.prog with⟨e,h1,h2⟩|h1
 ·refine .inl ⟨e,h1,fun _ hl hp p t hpj ht h0=>?_⟩
  by_cases hj:p=j
  ·subst hj
   rw[hs]at ht
   cases ht
   exact absurd ⟨h0,by rw[e];exact hl,hp⟩ hn
  ·exact h2 hk hl hp p t (by omega) ht h0
 ·exact .inr h1
theorem count_set_le{l:List Bool}{i:Nat}(hi:i<l.length):l.count true≤(l.set i true).count true :=
 count_le_of (by simp) fun v hv hv2=>by
  rw[List.getD_eq_getElem?_getD,List.getElem?_set]
  split
  ·rename_i e;subst e;simp[hv]
  ·rwa [←List.getD_eq_getElem?_getD]
theorem RU.take(h:RU g ws o0 o k j)(hk:k<g.rules.length)(hws:∀v,hold ws v↔Prd g v){s:Nat}(hs:g.rules[k].right[j]? = some (s:Int))(hsl:s<o.length)(hl:hold o g.rules[k].left)(hp:prdB g.rules[k].right ws=true) :
  RU g ws o0 (o.set s true) k (j+1):=by
 have hus:Usd g s:=.step k hk (h.sound _ hl) (fun t ht h0=>(hws t).1 (prdB_hold.1 hp t ht h0)) (List.mem_of_getElem? hs) (by omega)
 refine⟨by rw[List.length_set];exact h.len,fun v hv=>?_,fun v hv=>(hold_setI hsl).2 (.inr (h.mono v hv)),fun hc v hv=>?_,?_⟩
 ·rcases(hold_setI hsl).1 hv with rfl|hv
  ·exact hus
  ·exact h.sound v hv
 ·rcases(hold_setI hsl).1 hv with rfl|hv
  ·exact hc _ (List.getElem_mem hk) (h.stay hc _ hl) hp _ (List.mem_of_getElem? hs) (by omega)
  ·exact h.stay hc v hv
 ·rcases h.prog with⟨e,h1,h2⟩|h1
  ·subst e
   cases hb:o[s]with
   | true =>
    have hsame:o.set s true=o:=by
     apply List.ext_getElem? ; intro q
     rw[List.getElem?_set]
     split
     ·rename_i e;subst e;simp[hsl,hb]
     ·rfl
    rw[hsame]
    refine .inl ⟨rfl,h1,fun _ hl hp p t hpj ht h0=>?_⟩
    by_cases hj:p=j
    ·subst hj
     rw[hs]at ht
     cases ht
     exact hold_nat.2 (by rw[List.getElem?_eq_getElem hsl,hb])
    ·exact h2 hk hl hp p t (by omega) ht h0
   | false =>
    right
    refine count_lt_of (w:=s) (by simp) (fun v hv hv2=>?_) hsl ?_ ?_
    ·rw[List.getD_eq_getElem?_getD,List.getElem?_set]
     split
     ·rename_i e;subst e;simp[hv]
     ·rwa [←List.getD_eq_getElem?_getD]
    ·rw[List.getD_eq_getElem?_getD,List.getElem?_eq_getElem hsl,hb];rfl
    ·rw[List.getD_eq_getElem?_getD,List.getElem?_set];simp[hsl]
  ·exact .inr (Nat.lt_of_lt_of_le h1 (count_set_le hsl))
theorem RU.rule(h:RU g ws o0 o k j)(hk:k<g.rules.length)(hj:g.rules[k].right.length≤j):RU g ws o0 o (k+1) 0:=by
 refine⟨h.len,h.sound,h.mono,h.stay,?_⟩
 rcases h.prog with⟨e,h1,h2⟩|h1
 ·refine .inl ⟨e,fun i hi hik=>?_,fun _=>.zero _ _ _⟩
  by_cases e2:i=k
  ·subst e2
   exact fun hl hp p s hpl hs h0=>h2 hk hl hp p s (by omega) hs h0
  ·exact h1 i hi (by omega)
 ·exact .inr h1
theorem RU.next(h:RU g ws o0 o g.rules.length 0){n:Nat}(hp:UClosed g ws o0∨n≤o0.count true):UClosed g ws o∨n+1≤o.count true:=by
 have clo:∀o:List Bool,(∀(i:Nat) (h:i<g.rules.length),i<g.rules.length→RUr ws o g.rules[i] g.rules[i].right.length)→UClosed g ws o:=by
  intro o h r hr hl hp s hs h0
  obtain⟨i,hi,rfl⟩:=List.getElem_of_mem hr
  obtain⟨p,hp',rfl⟩:=List.getElem_of_mem hs
  exact h i hi hi hl hp p _ hp' (List.getElem?_eq_getElem hp') h0
 rcases h.prog with⟨e,h1,_⟩|h1
 ·subst e
  exact .inl (clo _ h1)
 ·rcases hp with hc|hc
  ·left
   intro r hr hl hpr t ht h0
   exact h.mono _ (hc r hr (h.stay hc _ hl) hpr t ht h0)
  ·exact .inr (by omega)
end
theorem uclosed_full{g:Gram}(hg:InG g){ws o:List Bool}(hl:o.length=g.vars.length)(h:UClosed g ws o∨g.vars.length≤o.count true):UClosed g ws o:=by
 rcases h with h|h
 ·exact h
 ·intro r hr _ _ s hs h0
  have hall:∀b∈o,true=b:=List.count_eq_length.1 (Nat.le_antisymm List.count_le_length (by omega))
  obtain⟨u,rfl⟩:∃u:Nat,s=u:=⟨s.toNat,by omega⟩
  have hu:u<o.length:=by have:=hg.right r hr _ hs;omega
  rw[hold_nat,List.getElem?_eq_getElem hu,←hall _ (List.getElem_mem hu)]
structure Least(g:Gram)(c:Nat→Nat):Prop where
 cap:∀v,v<g.vars.length→c v≤farN
 rel:∀r∈g.rules,c r.left.toNat≤min (sumC c r.right) farN
structure BF(g:Gram)(c:Nat→Nat)(b:Nat→Int)(ord:List Nat)(o:Nat→Nat)(i k:Nat):Prop where
 lo:∀v,v<g.vars.length→c v≤o v
 hi:∀v,v<g.vars.length→o v≤farN
 rank:∀p v,p<i→ord[p]? = some v→o v=c v
 cur:∀v q,ord[i]? = some v→q<k→b v=(q:Int)→o v=c v
section
variable {g:Gram} {c:Nat→Nat} {b:Nat→Int} {ord:List Nat} {o:Nat→Nat} {i k:Nat}
end
end Go.AM
namespace Go.AM
inductive PreW(g:Gram)(b:Nat→Int):List Int→List Int→List Int→Prop
 | nil:PreW g b [] [] []
 | term {s:Int} {rest d w:List Int} (h:s<0) (k:PreW g b rest d w):PreW g b (s::rest) d (s::w)
 | var {i v:Nat} (hi:i<g.rules.length) (hb:b v=(i:Int)) (hl:g.rules[i].left=(v:Int)) {rest d1 d2 w1 w2:List Int} (x:PreW g b g.rules[i].right d1 w1) (k:PreW g b rest d2 w2):PreW g b ((v:Int)::rest) ((i:Int)::(d1++d2)) (w1++w2)
open Classical in
noncomputable def szOf(g:Gram)(b:Nat→Int)(v:Nat):Nat:=if h:∃D,Pre g b [(v:Int)] D then(Classical.choose h).length else 0
def wideM:Nat:=1048576
structure WD(g:Gram)(b:Nat→Int)(ord:List Nat)(st:Nat→Nat)(i k:Nat):Prop where
 rank:∀p v,p<i→ord[p]? = some v→st v=min (szOf g b v) wideM
 cur:∀v,ord[i]? = some v→v<k→st v=min (szOf g b v) wideM
section
variable {g:Gram} {c:Nat→Nat} {b:Nat→Int} {ord:List Nat} {st:Nat→Nat} {i k:Nat}
end
end Go.AM
namespace Go.AM
open Go.RowKit
inductive Trie(α:Type) where
 | emp:Trie α
 | leaf (k:Nat) (v:α):Trie α
 | node (p:Nat) (l r:Trie α):Trie α
variable {α:Type}
noncomputable def Trie.get(d:α)(t:Trie α)(k:Nat):α :=
 Trie.rec d (fun j v=>Bool.rec d v (Nat.beq j k)) (fun p _ _ gl gr=>Bool.rec gl gr (Nat.ble p k)) t
noncomputable def Trie.set(t:Trie α)(k:Nat)(x:α):Trie α :=
 Trie.rec (.leaf k x) (fun j v=>Bool.rec (Bool.rec (.node j (.leaf k x) (.leaf j v)) (.node k (.leaf j v) (.leaf k x)) (Nat.ble j k)) (.leaf k x) (Nat.beq j k)) (fun p l r pl pr=>Bool.rec (.node p pl r) (.node p l pr) (Nat.ble p k)) t
noncomputable def Trie.bare(n:Nat):Nat→Trie α :=
 Nat.rec (fun _=>.emp) (fun m t a=>.node (Nat.add a (Nat.pow 2 m)) (t a) (t (Nat.add a (Nat.pow 2 m)))) n
theorem brec_if{β:Type}(x y:β){p:Prop}[Decidable p]{b:Bool}(h:b=decide p):(Bool.rec x y b:β)=if p then y else x:=by
 subst h
 by_cases hp:p
 ·simp[hp]
 ·simp[hp]
theorem nble(a b:Nat):Nat.ble a b=decide (a≤b):=by
 cases h:Nat.ble a b
 ·symm;simp only[decide_eq_false_iff_not];intro e;rw[Nat.ble_eq_true_of_le e]at h;cases h
 ·symm;simp only[decide_eq_true_eq];exact Nat.le_of_ble_eq_true h
theorem Trie.get_emp(d:α)(k:Nat):(Trie.emp:Trie α).get d k=d:=rfl
theorem Trie.get_leaf(d:α)(j:Nat)(v:α)(k:Nat):(Trie.leaf j v).get d k=if j=k then v else d:=brec_if _ _ (nbeq j k)
theorem Trie.get_node(d:α)(p:Nat)(l r:Trie α)(k:Nat):(Trie.node p l r).get d k=if p≤k then r.get d k else l.get d k:=brec_if _ _ (nble p k)
theorem Trie.set_emp(k:Nat)(x:α):(Trie.emp:Trie α).set k x=.leaf k x:=rfl
theorem Trie.set_leaf(j:Nat)(v:α)(k:Nat)(x:α):(Trie.leaf j v).set k x=if j=k then .leaf k x else if j≤k then .node k (.leaf j v) (.leaf k x) else .node j (.leaf k x) (.leaf j v):=by
 rw[←brec_if _ _ (nble j k)]
 exact brec_if _ _ (nbeq j k)
theorem Trie.set_node(p:Nat)(l r:Trie α)(k:Nat)(x:α):(Trie.node p l r).set k x=if p≤k then .node p l (r.set k x) else .node p (l.set k x) r:=brec_if _ _ (nble p k)
theorem Trie.set_get(d:α)(t:Trie α)(k:Nat)(x:α)(j:Nat):(t.set k x).get d j=cond (Nat.beq j k) x (t.get d j):=by
 have hb:cond (Nat.beq j k) x (t.get d j)=if j=k then x else t.get d j:=by
  rw[nbeq]
  by_cases h:j=k <;> simp[h]
 rw[hb]
 clear hb
 induction t with
 | emp =>
  rw[set_emp,get_leaf,get_emp]
  by_cases h:j=k
  ·rw[if_pos h.symm,if_pos h]
  ·rw[if_neg (Ne.symm h),if_neg h]
 | leaf i v =>
  rw[set_leaf,get_leaf]
  by_cases h1:i=k
  ·rw[if_pos h1,get_leaf]
   subst h1
   by_cases h:j=i
   ·subst h;simp
   ·simp[h,Ne.symm h]
  ·rw[if_neg h1]
   by_cases h2:i≤k
   ·rw[if_pos h2,get_node,get_leaf,get_leaf]
    by_cases h3:j=k
    ·subst h3;simp
    ·rw[if_neg h3]
     by_cases h4:k≤j
     ·rw[if_pos h4,if_neg (Ne.symm h3),if_neg (by omega)]
     ·rw[if_neg h4]
   ·rw[if_neg h2,get_node,get_leaf,get_leaf]
    by_cases h3:j=k
    ·subst h3;rw[if_neg h2];simp
    ·rw[if_neg h3]
     by_cases h4:i≤j
     ·rw[if_pos h4]
     ·rw[if_neg h4,if_neg (Ne.symm h3),if_neg (by omega)]
 | node p l r hl hr =>
  rw[set_node,get_node]
  by_cases h1:p≤k
  ·rw[if_pos h1,get_node]
   by_cases h2:p≤j
   ·rw[if_pos h2,if_pos h2,hr]
   ·rw[if_neg h2,if_neg h2,if_neg (by omega)]
  ·rw[if_neg h1,get_node]
   by_cases h2:p≤j
   ·rw[if_pos h2,if_pos h2,if_neg (by omega)]
   ·rw[if_neg h2,if_neg h2,hl]
theorem Trie.bare_get(d:α)(n:Nat):∀a k:Nat,(Trie.bare n a:Trie α).get d k=d:=by
 induction n with
 | zero=>intro a k;rfl
 | succ n ih =>
  intro a k
  show(Trie.node _ (Trie.bare n a) (Trie.bare n _):Trie α).get d k=d
  rw[get_node,ih,ih]
  simp
structure StT where
 f:Trie Value
 n:Nat
 H:Trie AObj
noncomputable def StT.st(s:StT):St:=⟨s.f.get undef,s.n,s.H.get .dead⟩
noncomputable def fputT(f:Trie Value)(d:Option Nat)(v:Value):Trie Value:=match d with|some d=>f.set d v|none=>f
theorem fputT_get(f:Trie Value)(d:Option Nat)(v:Value):(fputT f d v).get undef=fput (f.get undef) d v:=by
 cases d with
 | none=>rfl
 | some d=>funext t;exact Trie.set_get undef f d v t
noncomputable def heapT(r:Res)(n:Nat)(H:Trie AObj):Trie AObj:=match r.wr with
 | some (x,o)=>match r.news with
  | []=>H.set x o
  | p::_=>(H.set x o).set n p
 | none=>match r.news with
  | []=>H
  | p::_=>H.set n p
theorem heapT_get(r:Res)(n:Nat)(H:Trie AObj):(heapT r n H).get .dead=r.heap n (H.get .dead):=by
 funext t
 unfold heapT Res.heap
 split
 ·rename_i x o hw
  split
  ·rename_i hn;simp only[hw,hn];exact Trie.set_get _ _ _ _ _
  ·rename_i hn;simp only[hw,hn];rw[Trie.set_get,Trie.set_get];rfl
 ·rename_i hw
  split
  ·rename_i hn;simp only[hw,hn]
  ·rename_i hn;simp only[hw,hn];exact Trie.set_get _ _ _ _ _
noncomputable def argsT:List Value→Nat→Trie Value→Trie Value
 | [],_,t=>t
 | v::l,k,t=>argsT l (Nat.succ k) (t.set k v)
theorem argsT_get(l:List Value):∀(k:Nat) (t:Trie Value) (j:Nat),(argsT l k t).get undef j=if k≤j∧j<k+l.length then l.getD (j - k) undef else t.get undef j:=by
 induction l with
 | nil=>intro k t j;simp only[argsT,List.length_nil];rw[if_neg (by omega)]
 | cons v l ih =>
  intro k t j
  simp only[argsT]
  rw[ih,Trie.set_get,nbeq]
  simp only[List.length_cons,Nat.succ_eq_add_one]
  by_cases h1:k+1≤j∧j<k+1+l.length
  ·rw[if_pos h1,if_pos (by omega)]
   rw[show j - k=(j - (k+1))+1 by omega,List.getD_cons_succ]
  ·rw[if_neg h1]
   by_cases h2:j=k
   ·subst h2;rw[if_pos (by omega)];simp
   ·rw[if_neg (by omega)];simp[h2]
structure OpBox where
 run:(Operand→Value)→Nat→Heap→Option Res
 whole:Bool:=false
def opB(P:Program)(o:Oper):OpBox:=match o.op with
 | .move x|.assign x=>⟨fun ρ _ _=>some { v:=ρ x },false⟩
 | .pick c a b=>⟨fun ρ _ _=>tpick (ρ a) (ρ b) (ρ c),false⟩
 | .binOp op t x y _=>⟨fun ρ n H=>tor (vsh op (ρ x) (ρ y)) (tor (vbin P op t (ρ x) (ρ y)) (aop P ρ n H o)),false⟩
 | .unOp op _ x=>⟨fun ρ _ _=>tval (vun op (ρ x)),false⟩
 | .convert s d x=>⟨fun ρ n H=>tor (vconv P s d (ρ x)) (aop P ρ n H o),false⟩
 | .index t x i=>⟨fun ρ _ _=>tix P t (ρ x) (ρ i),false⟩
 | .fieldAddr t x i=>⟨fun ρ _ _=>tfa P t i (ρ x),false⟩
 | .indexAddr t x i=>⟨fun ρ _ _=>tidx P t (ρ x) (ρ i),false⟩
 | .alloc t=>⟨fun _ n _=>talloc n t (zeroT P t),false⟩
 | .box t x=>⟨fun ρ n _=>tbox n t (vcells (ρ x)),false⟩
 | .load t a=>⟨fun ρ _ H=>tload P t H (ρ a),false⟩
 | .store t a x=>⟨fun ρ _ H=>tstore P t H (ρ x) (ρ a),false⟩
 | .makeSlice t l c=>⟨fun ρ n _=>tmake n (emk P t) (ρ l) (ρ c),false⟩
 | .field t x i=>⟨fun ρ _ _=>tfld P t i (ρ x),false⟩
 | .build t ps=>⟨fun ρ _ _=>tbuild (ebd P t) (ps.toList.map fun(i,x)=>(i,ρ x)),false⟩
 | .buildSlice t len ps=>⟨fun ρ n _=>tbs n len (ebs P t len) (ps.toList.map fun(i,x)=>(i,ρ x)),false⟩
 | .slice t x lo hi none=>⟨fun ρ n H=>tsl P t H (aop P ρ n H o) (lo.map ρ) (hi.map ρ) (ρ x),false⟩
 | .extract x i=>⟨fun ρ _ _=>textr i (ρ x),false⟩
 | .nilCheck x=>⟨fun ρ _ _=>match ρ x with
  | .pointer (some a)=>some { v:=.pointer (some a) }
  | .func (.func g) a b=>some { v:=.func (.func g) a b }
  | _=>none,true⟩
 | .call { callee:=.builtin .len,args,argTypes }=>match args.toList with
  | [x]=>⟨fun ρ _ H=>tlen2 H (undT P argTypes) (ρ x),false⟩
  | _=>⟨fun _ _ _=>none,false⟩
 | .call { callee:=.builtin .append,args,argTypes }=>match args.toList with
  | [s,x]=>match growT P argTypes with
   | false=>⟨fun ρ n H=>tap n H (ρ s) (ρ x) (eapp P argTypes),false⟩
   | true=>⟨fun ρ n H=>agrow P n H argTypes (ρ s) (ρ x),false⟩
  | _=>⟨fun _ _ _=>none,false⟩
 | .call { callee:=.value g,args,.. }=>⟨fun ρ _ _=>match ρ g with
  | .func (.func g) first captured=>if first.isEmpty && captured.isEmpty then ok (aext P g (args.toList.map ρ)) else none
  | _=>none,true⟩
 | .lookup t x k ok=>⟨fun ρ _ H=>alookup P t H (ρ x) (ρ k) ok,true⟩
 | .mapUpdate t m k x|.insert t m k x=>⟨fun ρ _ H=>amapset P t H (ρ m) (ρ k) (ρ x),true⟩
 | _=>⟨fun ρ n H=>aop P ρ n H o,true⟩
theorem opB_top(P:Program)(ρ:Operand→Value)(n:Nat)(H:Heap)(o:Oper):(opB P o).run ρ n H=top P ρ n H o:=by
 obtain⟨d,op,ty,pos,af,gu⟩:=o
 cases op
 case slice t x lo hi m=>cases m <;> rfl
 case call c =>
  obtain⟨callee,args,argTypes⟩:=c
  cases callee
  case builtin b =>
   cases b
   case len =>
    simp only[opB,top]
    cases args.toList with
    | nil=>rfl
    | cons x l=>cases l <;> rfl
   case append =>
    simp only[opB,top]
    cases args.toList with
    | nil=>rfl
    | cons x l=>cases l with
     | nil=>rfl
     | cons y l=>cases l with
      | nil=>cases growT P argTypes <;> rfl
      | cons=>rfl
   all_goals rfl
  all_goals rfl
 all_goals rfl
theorem opB_whole(P:Program)(ρ:Operand→Value)(n:Nat)(H:Heap)(o:Oper)(h:(opB P o).whole=true):(opB P o).run ρ n H=aop P ρ n H o:=by
 obtain⟨d,op,ty,pos,af,gu⟩:=o
 cases op
 case slice t x lo hi m=>cases m <;> first|rfl|cases h
 case makeFunc f a b=>cases f <;> rfl
 case call c =>
  obtain⟨callee,args,argTypes⟩:=c
  cases callee
  case builtin b =>
   cases b
   case len =>
    simp only[opB]at h
    split at h <;> cases h
   case append =>
    simp only[opB]at h
    split at h
    ·split at h <;> cases h
    ·cases h
   all_goals rfl
  all_goals rfl
 all_goals first
  | rfl
  | cases h
noncomputable def aopE(P:Program)(ρ:Operand→Value)(n:Nat)(H:Heap)(o:Oper):Option Res :=
 Option.rec (Bool.rec (aop P ρ n H o) none (opB P o).whole) (fun r=>some r) ((opB P o).run ρ n H)
theorem aopE_eq(P:Program)(ρ:Operand→Value)(n:Nat)(H:Heap)(o:Oper):aopE P ρ n H o=aop P ρ n H o:=by
 unfold aopE
 cases h:(opB P o).run ρ n H with
 | some r=>rw[opB_top]at h;exact(top_sound h).symm
 | none =>
  cases hw:(opB P o).whole with
  | false=>rfl
  | true=>rw[opB_whole P ρ n H o hw]at h;exact h.symm
section
variable (P:Program) (okF:FuncId→Bool)
abbrev CFT:=Nat→FuncId→List Value→Nat→Trie AObj→Option (Value × Nat × Trie AObj)
noncomputable def stepT(cf:CFT)(draw:Bool)(fl:Nat)(all:Array Oper)(o:Oper)(rest:List Oper)(ih:StT→Option (StT × List Rec))(s:StT):Option (StT × List Rec) :=
 Bool.rec
  (Option.rec none (fun p=>some (p.1,⟨s.st,undef,s.n,s.H.get .dead,[],none,false⟩::p.2)) (ih ⟨fputT s.f o.dst undef,s.n,s.H⟩))
  (Option.rec
   (Option.rec none (fun p=>Option.rec none (fun q=>Option.rec none (fun z=>some (z.1,⟨s.st,q.1,q.2.1,q.2.2.get .dead,[],none,true⟩::z.2)) (ih ⟨fputT s.f o.dst q.1,q.2.1,q.2.2⟩)) (cf (evFl draw all (rest.length+1) s.n fl) p.1 p.2 s.n s.H)) (acallee (evalA (s.f.get undef)) o))
   (fun r=>Bool.rec none (Option.rec none (fun z=>some (z.1,⟨s.st,r.v,r.next s.n,(heapT r s.n s.H).get .dead,r.rd,r.wr.map (·.1),false⟩::z.2)) (ih ⟨fputT s.f o.dst r.v,r.next s.n,heapT r s.n s.H⟩)) (Option.rec true (fun w=>Nat.ble fl w.1) r.wr))
   (aopE P (evalA (s.f.get undef)) s.n (s.H.get .dead) o))
  (wantedA all (s.f.get undef) o)
noncomputable def evOpsT(cf:CFT)(draw:Bool)(fl:Nat)(all:Array Oper)(l:List Oper):StT→Option (StT × List Rec) :=
 List.rec (fun s=>some (s,[])) (fun o rest ih s=>stepT P cf draw fl all o rest ih s) l
theorem evOpsT_nil(cf:CFT)(draw:Bool)(fl:Nat)(all:Array Oper)(s:StT):evOpsT P cf draw fl all [] s=some (s,[]):=rfl
theorem stepT_eq(cf:CFT)(draw:Bool)(fl:Nat)(all:Array Oper)(o:Oper)(rest:List Oper)(ih:StT→Option (StT × List Rec))(s:StT):stepT P cf draw fl all o rest ih s =
  match wantedA all (s.f.get undef) o with
  | false=>match ih ⟨fputT s.f o.dst undef,s.n,s.H⟩with
   | some (s1,l)=>some (s1,⟨s.st,undef,s.n,s.H.get .dead,[],none,false⟩::l)
   | none=>none
  | true=>match aopE P (evalA (s.f.get undef)) s.n (s.H.get .dead) o with
   | some r =>
    match(match r.wr with|some (x,_)=>Nat.ble fl x|none=>true)with
    | true=>match ih ⟨fputT s.f o.dst r.v,r.next s.n,heapT r s.n s.H⟩with
     | some (s1,l)=>some (s1,⟨s.st,r.v,r.next s.n,(heapT r s.n s.H).get .dead,r.rd,r.wr.map (·.1),false⟩::l)
     | none=>none
    | false=>none
   | none=>match acallee (evalA (s.f.get undef)) o with
    | some (g,args)=>match cf (evFl draw all (rest.length+1) s.n fl) g args s.n s.H with
     | some (v,n,H)=>match ih ⟨fputT s.f o.dst v,n,H⟩with
      | some (s1,l)=>some (s1,⟨s.st,v,n,H.get .dead,[],none,true⟩::l)
      | none=>none
     | none=>none
    | none=>none:=by
 unfold stepT
 cases wantedA all (s.f.get undef) o with
 | false =>
  dsimp only
  cases ih ⟨fputT s.f o.dst undef,s.n,s.H⟩ <;> rfl
 | true =>
  dsimp only
  cases aopE P (evalA (s.f.get undef)) s.n (s.H.get .dead) o with
  | some r =>
   dsimp only
   cases hw:r.wr with
   | none =>
    dsimp only
    cases ih ⟨fputT s.f o.dst r.v,r.next s.n,heapT r s.n s.H⟩ <;> rfl
   | some w =>
    obtain⟨x,p⟩:=w
    dsimp only
    cases Nat.ble fl x with
    | false=>rfl
    | true =>
     dsimp only
     cases ih ⟨fputT s.f o.dst r.v,r.next s.n,heapT r s.n s.H⟩ <;> rfl
  | none =>
   dsimp only
   cases acallee (evalA (s.f.get undef)) o with
   | none=>rfl
   | some p =>
    obtain⟨g,args⟩:=p
    dsimp only
    cases cf (evFl draw all (rest.length+1) s.n fl) g args s.n s.H with
    | none=>rfl
    | some q =>
     obtain⟨v,n,H⟩:=q
     dsimp only
     cases ih ⟨fputT s.f o.dst v,n,H⟩ <;> rfl
theorem evOpsT_cons(cf:CFT)(draw:Bool)(fl:Nat)(all:Array Oper)(o:Oper)(rest:List Oper)(s:StT):evOpsT P cf draw fl all (o::rest) s=stepT P cf draw fl all o rest (evOpsT P cf draw fl all rest) s:=rfl
noncomputable def evCodeT(cf:CFT):Nat→Nat→Code→StT→Option (AExit × StT)
 | 0,_,_,_=>none
 | k+1,fl,c,s=>match c with
  | .skip|.label _=>some (.normal,s)
  | .ret=>some (.ret,s)
  | .exit id=>some (.exit id,s)
  | .seq a b=>match evCodeT cf k fl a s with
   | some (.normal,s1)=>evCodeT cf k fl b s1
   | r=>r
  | .cond x a b=>match evalA (s.f.get undef) x with
   | .bool t=>match t with
    | true=>evCodeT cf k fl a s
    | false=>evCodeT cf k fl b s
   | _=>none
  | .block id a=>match evCodeT cf k fl a s with
   | some (e,s1)=>some (blockExit id e,s1)
   | none=>none
  | .loop a=>match evCodeT cf k fl a s with
   | some (.normal,s1)=>evCodeT cf k fl (.loop a) s1
   | r=>r
  | .region _ ops draw=>match evOpsT P cf draw fl ops ops.toList s with
   | some (s1,l)=>match draw with
    | false=>some (.normal,s1)
    | true=>match pairsOK (sPairs ops) l with
     | true=>some (.normal,s1)
     | false=>none
   | none=>none
  | _=>none
noncomputable def evCallT:Nat→CFT
 | 0,_,_,_,_,_=>none
 | k+1,fl,g,args,n,H =>
  match okF g with
  | true=>match P.funcs[g]? with
   | some fn=>match fn.body with
    | some c=>match Nat.ble args.length fn.ntmps with
     | true=>match evCodeT P (evCallT k) (k+1) fl c ⟨argsT args 0 (.bare 7 0),n,H⟩with
      | some (.normal,s)|some (.ret,s)=>match aresults P fn s.st with
       | some v=>some (v,s.n,s.H)
       | none=>none
      | _=>none
     | false=>none
    | none=>none
   | none=>none
  | false=>none
end
section
variable {P:Program} {okF:FuncId→Bool}
def SameT(cfT:CFT)(cf:Nat→FuncId→List Value→Nat→Heap→Option (Value × Nat × Heap)):Prop :=
 ∀fl g args n H v n' H',cfT fl g args n H=some (v,n',H')→cf fl g args n (H.get .dead)=some (v,n',H'.get .dead)
theorem evOpsT_eq{cfT:CFT}{cf}(hs:SameT cfT cf){draw:Bool}{fl:Nat}{all:Array Oper}:∀(rest:List Oper) (s s1:StT) (l:List Rec),evOpsT P cfT draw fl all rest s=some (s1,l)→evOps P cf draw fl all rest s.st=some (s1.st,l):=by
 intro rest
 induction rest with
 | nil=>intro s s1 l h;simp only[evOpsT_nil]at h;cases h;rfl
 | cons o rest ih =>
  intro s s1 l h
  obtain⟨f,n,H⟩:=s
  rw[evOpsT_cons,stepT_eq]at h
  simp only[evOps,StT.st]
  split at h
  ·rename_i hw
   split at h
   case h_2=>cases h
   rename_i s2 l2 h2
   cases h
   have h3:=ih _ _ _ h2
   simp only[StT.st,fputT_get]at h3
   simp only[hw,h3,StT.st]
  ·rename_i hw
   simp only[hw]
   rw[aopE_eq]at h
   split at h
   ·rename_i r hr
    split at h
    case h_2=>cases h
    rename_i hfl
    split at h
    case h_2=>cases h
    rename_i s2 l2 h2
    cases h
    have h3:=ih _ _ _ h2
    simp only[StT.st,fputT_get,heapT_get]at h3
    simp only[hr,StT.st,heapT_get]
    cases hww:r.wr with
    | none=>simp only[h3]
    | some p =>
     rw[hww]at hfl
     simp only at hfl
     simp only[hfl,h3]
   ·rename_i hr
    split at h
    case h_2=>cases h
    rename_i g args hg
    split at h
    case h_2=>cases h
    rename_i v n1 H1 hc
    split at h
    case h_2=>cases h
    rename_i s2 l2 h2
    cases h
    have h3:=ih _ _ _ h2
    have h4:=hs _ _ _ _ _ _ _ _ hc
    simp only[StT.st,fputT_get]at h3
    simp only[hr,hg,h4,h3,StT.st]
theorem evCodeT_eq{cfT:CFT}{cf}(hs:SameT cfT cf):∀(k fl:Nat) (c:Code) (s s1:StT) (e:AExit),evCodeT P cfT k fl c s=some (e,s1)→evCode P cf k fl c s.st=some (e,s1.st):=by
 intro k
 induction k with
 | zero=>intro fl c s s1 e h;simp[evCodeT]at h
 | succ k ih =>
  intro fl c s s1 e h
  cases c with
  | skip=>simp only[evCodeT]at h;cases h;rfl
  | label l=>simp only[evCodeT]at h;cases h;rfl
  | ret=>simp only[evCodeT]at h;cases h;rfl
  | exit id=>simp only[evCodeT]at h;cases h;rfl
  | seq a b =>
   simp only[evCodeT]at h
   simp only[evCode]
   cases ha:evCodeT P cfT k fl a s with
   | none=>simp[ha]at h
   | some p =>
    obtain⟨e1,s2⟩:=p
    rw[ih _ _ _ _ _ ha]
    rw[ha]at h
    cases e1 with
    | normal=>exact ih _ _ _ _ _ h
    | exit id=>cases h;rfl
    | ret=>cases h;rfl
  | cond x a b =>
   simp only[evCodeT]at h
   simp only[evCode]
   simp only[StT.st]
   split at h
   case h_2=>cases h
   rename_i t ht
   rw[ht]
   cases t with
   | true=>exact ih _ _ _ _ _ h
   | false=>exact ih _ _ _ _ _ h
  | block id a =>
   simp only[evCodeT]at h
   simp only[evCode]
   split at h
   case h_2=>cases h
   rename_i e1 s2 ha
   cases h
   rw[ih _ _ _ _ _ ha]
  | loop a =>
   simp only[evCodeT]at h
   simp only[evCode]
   cases ha:evCodeT P cfT k fl a s with
   | none=>simp[ha]at h
   | some p =>
    obtain⟨e1,s2⟩:=p
    rw[ih _ _ _ _ _ ha]
    rw[ha]at h
    cases e1 with
    | normal=>exact ih _ _ _ _ _ h
    | exit id=>cases h;rfl
    | ret=>cases h;rfl
  | region id ops draw =>
   simp only[evCodeT]at h
   simp only[evCode]
   split at h
   case h_2=>cases h
   rename_i s2 l h2
   rw[evOpsT_eq hs _ _ _ _ h2]
   cases draw with
   | false=>cases h;rfl
   | true =>
    simp only at h ⊢
    split at h
    case h_2=>cases h
    rename_i hp
    cases h
    rw[hp]
  | _=>simp[evCodeT]at h
theorem evCallT_eq:∀k,SameT (evCallT P okF k) (evCall P okF k):=by
 intro k
 induction k with
 | zero=>intro fl g args n H v n' H' h;simp[evCallT]at h
 | succ k ih =>
  intro fl g args n H v n' H' h
  simp only[evCallT]at h
  simp only[evCall]
  split at h
  case h_2=>cases h
  rename_i hg
  split at h
  case h_2=>cases h
  rename_i fn hfn
  split at h
  case h_2=>cases h
  rename_i c hc
  split at h
  case h_2=>cases h
  rename_i hl
  simp only[hg,hfn,hc,hl]
  have he:(argsT args 0 (.bare 7 0)).get undef=fun t=>args.getD t undef:=by
   funext t
   rw[argsT_get]
   by_cases ht:t<args.length
   ·rw[if_pos (by omega)];rfl
   ·rw[if_neg (by omega)];simp[Trie.bare_get,List.getD,List.getElem?_eq_none (Nat.le_of_not_lt ht)]
  split at h
  ·rename_i s hs
   have h2:=evCodeT_eq ih _ _ _ _ _ _ hs
   simp only[StT.st,he]at h2
   rw[h2]
   split at h
   case h_2=>cases h
   rename_i v' hv
   cases h
   simp only[StT.st]at hv
   simp only[hv]
  ·rename_i s hs
   have h2:=evCodeT_eq ih _ _ _ _ _ _ hs
   simp only[StT.st,he]at h2
   rw[h2]
   split at h
   case h_2=>cases h
   rename_i v' hv
   cases h
   simp only[StT.st]at hv
   simp only[hv]
  ·cases h
end
end Go.AM
namespace Go.AM
open Go.RowKit
section
variable {P:Program} {n:Nat} {H:Heap} {ts:Array TypeId} {e:TypeId} {j:Nat}
theorem aop_look{ρ:Operand→Value}{d:Option Nat}{t:TypeId}{x k:Operand}{b:Bool}{ty:TypeId}{p:String}{af:Array Edge}{gd:Option (Nat × Bool)} :
  aop P ρ n H ⟨d,.lookup t x k b,ty,p,af,gd⟩=alookup P t H (ρ x) (ρ k) b:=rfl
theorem aop_mapset{ρ:Operand→Value}{d:Option Nat}{t:TypeId}{m k x:Operand}{ty:TypeId}{p:String}{af:Array Edge}{gd:Option (Nat × Bool)} :
  aop P ρ n H ⟨d,.mapUpdate t m k x,ty,p,af,gd⟩=amapset P t H (ρ m) (ρ k) (ρ x):=rfl
def amake(P:Program)(n:Nat)(t:TypeId):Option Res:=match P.underlying t with
 | some (.map kt _)=>some { v:=.map (some n),news:=[.map [] 0 kt] }
 | _=>none
theorem aop_makemap{ρ:Operand→Value}{d:Option Nat}{t:TypeId}{ty:TypeId}{p:String}{af:Array Edge}{gd:Option (Nat × Bool)} :
  aop P ρ n H ⟨d,.makeMap t none,ty,p,af,gd⟩=amake P n t:=rfl
end
end Go.AM
namespace Go.AM
abbrev It:=Nat × Nat × Nat
def rgt(g:Gram)(r:Nat):List Int:=((g.rules[r]?).map (·.right)).getD []
def lft(g:Gram)(r:Nat):Int:=((g.rules[r]?).map (·.left)).getD 0
def nx(g:Gram)(x:It):Option Int:=(rgt g x.1)[x.2.1]?
def okI(g:Gram)(at_:Nat)(x:It):Prop:=x.1<g.rules.length∧x.2.1≤(rgt g x.1).length∧x.2.2≤at_
structure okL(g:Gram)(at_:Nat)(l:List It):Prop where
 nd:l.Nodup
 ok:∀x∈l,okI g at_ x
end Go.AM
namespace Go.AM
open Go.RowKit
def abin0(P:Program)(ρ:Operand→Value)(o:Oper)(op:BinOp)(t:TypeId)(x y:Value):Option Res:=match aeqNil P t x y with
 | some b=>match op with
  | .eql=>some { v:=.bool b }
  | .neq=>some { v:=.bool (!b) }
  | _=>none
 | none=>match anan P op t x y with
  | some v=>some { v:=v }
  | none=>aflat P ρ o
def asn(op:BinOp)(alt:Option Res):Value→Option Res
 | .slice (some _) _ _=>match op with
  | .eql=>some { v:=.bool false }
  | .neq=>some { v:=.bool true }
  | _=>alt
 | .slice none 0 0=>match op with
  | .eql=>some { v:=.bool true }
  | .neq=>some { v:=.bool false }
  | _=>alt
 | _=>alt
theorem aop_sn{P:Program}{f:Fr}{n:Nat}{H:Heap}{d:Option Nat}{op:BinOp}{t u e:TypeId}{x:Operand}{ty:TypeId}{p:String}{af:Array Edge}{gd:Option (Nat × Bool)}(he:P.underlying t=some (.slice e)) :
  aop P (evalA f) n H ⟨d,.binOp op t x (.const (.slice none 0 0)) u,ty,p,af,gd⟩=asn op (abin0 P (evalA f) ⟨d,.binOp op t x (.const (.slice none 0 0)) u,ty,p,af,gd⟩ op t (evalA f x) (.slice none 0 0)) (evalA f x):=by
 show abin0 P (evalA f) ⟨d,.binOp op t x (.const (.slice none 0 0)) u,ty,p,af,gd⟩ op t (evalA f x) (.slice none 0 0)=_
 cases hx:evalA f x with
 | slice a m c =>
  cases a with
  | none =>
   by_cases h0:m=0∧c=0
   ·obtain⟨rfl,rfl⟩:=h0
    have hn:∀op:BinOp,anan P op t (.slice none 0 0) (.slice none 0 0)=none:=fun op=>by
     unfold anan
     rw[he]
    have h0:aeqNil P t (.slice none 0 0) (.slice none 0 0)=none:=by
     unfold aeqNil
     rw[he]
    have hf:∀op:BinOp,aflat P (evalA f) ⟨d,.binOp op t x (.const (.slice none 0 0)) u,ty,p,af,gd⟩=asnil P (evalA f) (.binOp op t x (.const (.slice none 0 0)) u):=fun op=>by
     unfold aflat
     have hf:opFlat (evalA f) ⟨d,.binOp op t x (.const (.slice none 0 0)) u,ty,p,af,gd⟩=false:=by
      simp[opFlat,Op.operands,hx,flat,flat1]
     rw[hf]
     rfl
    cases op <;> first|rfl|skip
    ·unfold asn abin0
     rw[h0]
     simp only[hn,hf]
     simp[asnil,he,hx]
    ·unfold asn abin0
     rw[h0]
     simp only[hn,hf]
     simp[asnil,he,hx]
   ·unfold asn
    split
    ·rename_i h;cases h
    ·rename_i h;cases h;exact absurd ⟨rfl,rfl⟩ h0
    ·rfl
  | some a =>
   have hf:∀op:BinOp,aflat P (evalA f) ⟨d,.binOp op t x (.const (.slice none 0 0)) u,ty,p,af,gd⟩=asnil P (evalA f) (.binOp op t x (.const (.slice none 0 0)) u):=fun op=>by
    unfold aflat
    have hf:opFlat (evalA f) ⟨d,.binOp op t x (.const (.slice none 0 0)) u,ty,p,af,gd⟩=false:=by
     simp[opFlat,Op.operands,hx,flat,flat1]
    rw[hf]
    rfl
   have hn:∀op:BinOp,anan P op t (.slice (some a) m c) (.slice none 0 0)=none:=fun op=>by
    unfold anan
    rw[he]
   have h0:aeqNil P t (.slice (some a) m c) (.slice none 0 0)=none:=by
    unfold aeqNil
    rw[he]
   cases op <;> first|rfl|skip
   ·unfold asn abin0
    rw[h0]
    simp only[hn,hf]
    simp[asnil,he,hx]
   ·unfold asn abin0
    rw[h0]
    simp only[hn,hf]
    simp[asnil,he,hx]
 | _=>rfl
end Go.AM
namespace Go.AM
open Go.RowKit
def wz(P:Program)(all:Array Oper)(K:List Fk)(Q:AExit→St→Prop):List Bool→List Oper→Fr→Nat→Heap→Prop
 | _,[],f,n,H=>WK P .skip K ⟨f,n,H⟩ Q
 | b::fl,o::rest,f,n,H=>w1 P b (wz P all K Q fl rest) o f n H (wantedA all f o)
 | [],o::rest,f,n,H=>w1 P true (wz P all K Q [] rest) o f n H (wantedA all f o)
theorem wz_sound {P : Program} {all : Array Oper} {K : List Fk} {Q : AExit → St → Prop} : ∀ (rest : List Oper) (fl : List Bool) (j : Nat), (∀ k : Nat, fl[k]? = some false → soloB all (j + k) = true) → ∀ (f : Fr) (n : Nat) (H : Heap), wz P all K Q fl rest f n H →
    ∃ s1 l, BS P (.ops all rest ⟨f, n, H⟩) (.log s1 l) ∧ (∀ (k : Nat) (r : Rec), l[k]? = some r → r.call = true → soloB all (j + k) = true ∨ ∀ x, x < r.pre.n → r.H x = r.pre.H x) ∧ WK P .skip K s1 Q := by
  intro rest
  induction rest with
  | nil =>
    intro fl j hfl f n H h
    refine ⟨⟨f, n, H⟩, [], .opsNil all _, (fun k r hr => by simp at hr), ?_⟩
    cases fl <;> exact h
  | cons o rest ih =>
    intro fl j hfl f n H h
    obtain ⟨b, fl', hfl', hb, h⟩ : ∃ b fl', (∀ k : Nat, fl'[k]? = some false → soloB all (j + 1 + k) = true) ∧ (b = false → soloB all j = true) ∧ w1 P b (wz P all K Q fl' rest) o f n H (wantedA all f o) := by
      cases fl with
      | nil => exact ⟨true, [], fun k hk => by simp at hk, fun e => (by cases e), h⟩
      | cons b fl => exact ⟨b, fl, fun k hk => by rw [show j + 1 + k = j + (k + 1) by omega]; exact hfl (k + 1) (by simpa using hk), fun e => hfl 0 (by subst e; rfl), h⟩
    have op : ∀ t, (∀ r, t = some r → aop P (evalA f) n H o = some r) → wantedA all f o = true → w3 (wz P all K Q fl' rest) f o.dst n H t →
        ∃ s1 l, BS P (.ops all (o :: rest) ⟨f, n, H⟩) (.log s1 l) ∧ (∀ (k : Nat) (r : Rec), l[k]? = some r → r.call = true → soloB all (j + k) = true ∨ ∀ x, x < r.pre.n → r.H x = r.pre.H x) ∧ WK P .skip K s1 Q := fun t ht hw h => by
      cases t with
      | none => cases h
      | some r =>
        obtain ⟨s1, l, h1, h2, h3⟩ := ih fl' (j + 1) hfl' _ _ _ h
        refine ⟨s1, _, .opsOp hw (ht r rfl) h1, fun k q hq hc => ?_, h3⟩
        cases k with
        | zero => simp at hq; subst hq; cases hc
        | succ k => rw [show j + (k + 1) = j + 1 + k by omega]; exact h2 k q (by simpa using hq) hc
    cases hw : wantedA all f o with
    | false =>
      rw [hw] at h
      obtain ⟨s1, l, h1, h2, h3⟩ := ih fl' (j + 1) hfl' _ _ _ h
      refine ⟨s1, _, .opsSkip hw h1, fun k q hq hc => ?_, h3⟩
      cases k with
      | zero => simp at hq; subst hq; cases hc
      | succ k => rw [show j + (k + 1) = j + 1 + k by omega]; exact h2 k q (by simpa using hq) hc
    | true =>
      rw [hw] at h
      simp only [w1] at h
      cases hg : acallee (evalA f) o with
      | none => rw [hg] at h; exact op _ (fun r hr => top_sound hr) hw h
      | some c =>
        obtain ⟨g, args⟩ := c
        rw [hg] at h
        rcases h with h | ⟨v, n1, H1, hbs, hf, h⟩
        · exact op _ (fun r hr => hr) hw h
        · obtain ⟨s1, l, h1, h2, h3⟩ := ih fl' (j + 1) hfl' _ _ _ h
          refine ⟨s1, _, .opsCall hw hg hbs h1, fun k q hq hc => ?_, h3⟩
          cases k with
          | zero =>
            simp at hq; subst hq
            cases b with
            | false => exact .inl (hb rfl)
            | true => exact .inr (hf rfl)
          | succ k => rw [show j + (k + 1) = j + 1 + k by omega]; exact h2 k q (by simpa using hq) hc
def soloFl(ops:Array Oper)(fl:List Bool):Bool:=(List.range fl.length).all fun k=>(fl.getD k true) || soloB ops k
theorem WK.rgs{P:Program}{K:List Fk}{Q:AExit→St→Prop}{f:Fr}{n:Nat}{H:Heap}{id:Nat}{ops:Array Oper}(fl:List Bool)(hfl:soloFl ops fl=true)(hp:(sPairs ops).isEmpty=true)(h:wz P ops K Q fl ops.toList f n H) :
  WK P (.region id ops true) K ⟨f,n,H⟩ Q:=by
 obtain⟨s1,l,h1,h2,h3⟩:=wz_sound ops.toList fl 0 (by
  intro k hk
  have hlt:=(List.getElem?_eq_some_iff.1 hk).1
  have:=List.all_eq_true.1 hfl k (List.mem_range.2 hlt)
  rw[List.getD_eq_getElem?_getD,hk]at this
  rw[Nat.zero_add]
  simpa using this) _ _ _ h
 refine WK.imp (d:=.skip) (t:=s1) (fun e s2 h=>?_) h3
 cases h
 refine .regionDraw h1 ⟨fun p hp'=>?_,fun k r e hcl=>by have:=h2 k r e hcl;rwa [Nat.zero_add]at this⟩
 rw[List.isEmpty_iff.1 hp]at hp';cases hp'
end Go.AM
namespace Go.AM
open Go.RowKit
def wm(P:Program)(ps:List (Nat × Nat))(all:Array Oper)(K:List Fk)(Q:AExit→St→Prop):List Bool→List Oper→Fr→Nat→Heap→List LR→Prop
 | _,[],f,n,H,l=>WLEnd P ps K Q ⟨f,n,H⟩ l
 | b::fl,o::rest,f,n,H,l=>wl1 P b (wm P ps all K Q fl rest) o f n H l (wantedA all f o)
 | [],o::rest,f,n,H,l=>wl1 P true (wm P ps all K Q [] rest) o f n H l (wantedA all f o)
theorem wm_sound {P : Program} {ps : List (Nat × Nat)} {all : Array Oper} {K : List Fk} {Q : AExit → St → Prop} : ∀ (rest : List Oper) (fl : List Bool) (j : Nat), (∀ k : Nat, fl[k]? = some false → soloB all (j + k) = true) → ∀ (f : Fr) (n : Nat) (H : Heap) (l0 : List LR), wm P ps all K Q fl rest f n H l0 →
    ∃ s1 l, BS P (.ops all rest ⟨f, n, H⟩) (.log s1 l) ∧ (∀ (k : Nat) (r : Rec), l[k]? = some r → r.call = true → soloB all (j + k) = true ∨ ∀ x, x < r.pre.n → r.H x = r.pre.H x) ∧ lightOK ps (l0 ++ l.map lrOf) ∧ WK P .skip K s1 Q := by
  intro rest
  induction rest with
  | nil =>
    intro fl j hfl f n H l0 h
    have h' : WLEnd P ps K Q ⟨f, n, H⟩ l0 := by cases fl <;> exact h
    exact ⟨⟨f, n, H⟩, [], .opsNil all _, (fun k r hr => by simp at hr), by simpa using h'.1, h'.2⟩
  | cons o rest ih =>
    intro fl j hfl f n H l0 h
    obtain ⟨b, fl', hfl', hb, h⟩ : ∃ b fl', (∀ k : Nat, fl'[k]? = some false → soloB all (j + 1 + k) = true) ∧ (b = false → soloB all j = true) ∧ wl1 P b (wm P ps all K Q fl' rest) o f n H l0 (wantedA all f o) := by
      cases fl with
      | nil => exact ⟨true, [], fun k hk => by simp at hk, fun e => (by cases e), h⟩
      | cons b fl => exact ⟨b, fl, fun k hk => by rw [show j + 1 + k = j + (k + 1) by omega]; exact hfl (k + 1) (by simpa using hk), fun e => hfl 0 (by subst e; rfl), h⟩
    have op : ∀ t, (∀ r, t = some r → aop P (evalA f) n H o = some r) → wantedA all f o = true → wl3 (wm P ps all K Q fl' rest) f o.dst n H l0 t →
        ∃ s1 l, BS P (.ops all (o :: rest) ⟨f, n, H⟩) (.log s1 l) ∧ (∀ (k : Nat) (r : Rec), l[k]? = some r → r.call = true → soloB all (j + k) = true ∨ ∀ x, x < r.pre.n → r.H x = r.pre.H x) ∧ lightOK ps (l0 ++ l.map lrOf) ∧ WK P .skip K s1 Q := fun t ht hw h => by
      cases t with
      | none => cases h
      | some r =>
        obtain ⟨s1, l, h1, h2, h3, h4⟩ := ih fl' (j + 1) hfl' _ _ _ _ h
        refine ⟨s1, _, .opsOp hw (ht r rfl) h1, fun k q hq hc => ?_, by simpa [lrOf] using h3, h4⟩
        cases k with
        | zero => simp at hq; subst hq; cases hc
        | succ k => rw [show j + (k + 1) = j + 1 + k by omega]; exact h2 k q (by simpa using hq) hc
    cases hw : wantedA all f o with
    | false =>
      rw [hw] at h
      obtain ⟨s1, l, h1, h2, h3, h4⟩ := ih fl' (j + 1) hfl' _ _ _ _ h
      refine ⟨s1, _, .opsSkip hw h1, fun k q hq hc => ?_, by simpa [lrOf] using h3, h4⟩
      cases k with
      | zero => simp at hq; subst hq; cases hc
      | succ k => rw [show j + (k + 1) = j + 1 + k by omega]; exact h2 k q (by simpa using hq) hc
    | true =>
      rw [hw] at h
      simp only [wl1] at h
      cases hg : acallee (evalA f) o with
      | none => rw [hg] at h; exact op _ (fun r hr => top_sound hr) hw h
      | some c =>
        obtain ⟨g, args⟩ := c
        rw [hg] at h
        rcases h with h | ⟨v, n1, H1, hbs, hf, h⟩
        · exact op _ (fun r hr => hr) hw h
        · obtain ⟨s1, l, h1, h2, h3, h4⟩ := ih fl' (j + 1) hfl' _ _ _ _ h
          refine ⟨s1, _, .opsCall hw hg hbs h1, fun k q hq hc => ?_, by simpa [lrOf] using h3, h4⟩
          cases k with
          | zero =>
            simp at hq; subst hq
            cases b with
            | false => exact .inl (hb rfl)
            | true => exact .inr (hf rfl)
          | succ k => rw [show j + (k + 1) = j + 1 + k by omega]; exact h2 k q (by simpa using hq) hc
theorem WK.rgm{P:Program}{K:List Fk}{Q:AExit→St→Prop}{f:Fr}{n:Nat}{H:Heap}{id:Nat}{ops:Array Oper}(fl:List Bool)(ps:List (Nat × Nat))(hfl:soloFl ops fl=true)(hp:sPairs ops=ps)(h:wm P ps ops K Q fl ops.toList f n H []) :
  WK P (.region id ops true) K ⟨f,n,H⟩ Q:=by
 obtain⟨s1,l,h1,h2,h3,h4⟩:=wm_sound ops.toList fl 0 (by
  intro k hk
  have hlt:=(List.getElem?_eq_some_iff.1 hk).1
  have:=List.all_eq_true.1 hfl k (List.mem_range.2 hlt)
  rw[List.getD_eq_getElem?_getD,hk]at this
  rw[Nat.zero_add]
  simpa using this) _ _ _ _ h
 refine WK.imp (d:=.skip) (t:=s1) (fun e s2 h=>?_) h4
 cases h
 subst hp
 have hnc:∀r∈l.map fun r=>{ r with call:=false },r.call=true→∀x,x<r.pre.n→r.H x=r.pre.H x:=fun r hr hc=>by
  obtain⟨q,_,rfl⟩:=List.mem_map.1 hr
  cases hc
 have hd:=light_draw (ops:=ops) (l:=l.map fun r=>{ r with call:=false }) (by
  rw[List.map_map]
  exact(by simpa using h3:lightOK (sPairs ops) (l.map lrOf))) hnc
 refine .regionDraw h1 ⟨fun p hp' x=>?_,fun k r e hcl=>by have:=h2 k r e hcl;rwa [Nat.zero_add]at this⟩
 have:=hd.1 p hp' x
 have hw:∀i y,writes (l.map fun r=>{ r with call:=false }) i y↔writes l i y:=fun i y=>by
  unfold writes
  simp only[List.getElem?_map,Option.map_eq_some_iff]
  exact⟨fun⟨r,⟨a,h1,h2⟩,h3⟩=>⟨a,h1,by rw[←h2]at h3;exact h3⟩,fun⟨a,h1,h3⟩=>⟨_,⟨a,h1,rfl⟩,h3⟩⟩
 have ht:∀i y,touches (l.map fun r=>{ r with call:=false }) i y↔touches l i y:=fun i y=>by
  unfold touches
  simp only[List.getElem?_map,Option.map_eq_some_iff]
  exact⟨fun⟨r,⟨a,h1,h2⟩,h3⟩=>⟨a,h1,by rw[←h2]at h3;exact h3⟩,fun⟨a,h1,h3⟩=>⟨_,⟨a,h1,rfl⟩,h3⟩⟩
 simpa only[hw,ht] using this
theorem AtCallL.byX{P:Program}{X:Nat→Prop}{k:Fr→Nat→Heap→List LR→Prop}{f:Fr}{d:Option Nat}{n:Nat}{H:Heap}{l:List LR}{g:FuncId}{args:List Value}{ext:Option Res}{Q:Value→Nat→Heap→Prop}(h:GivesX P X g args n H Q)
  (hk:∀v n' H',Kx X n H n' H'→Q v n' H'→k (fput f d v) n' H' (l++[⟨[],none⟩])):AtCallL P false k f d n H l g args ext:=by
 obtain⟨v,n',H',a,b,c⟩:=h
 exact .inr ⟨v,n',H',a,fun h=>(by cases h),hk v n' H' b c⟩
theorem WK.frame{P:Program}{c:Code}{K:List Fk}{n:Nat}{H:Heap}{Q:AExit→St→Prop}{f0:Fr}(R:Fr→Prop)(h0:R f0)(h:∀f,R f→WK P c K ⟨f,n,H⟩ Q):WK P c K ⟨f0,n,H⟩ Q:=h f0 h0
end Go.AM
namespace Go.AM
open Go.RowKit
def BA(l:List UInt8):ByteArray:=⟨l.toArray⟩
theorem ba_size(l:List UInt8):(BA l).size=l.length:=by simp[BA,ByteArray.size]
theorem ba_app(a b:List UInt8):BA a++BA b=BA (a++b):=by
 apply ByteArray.ext
 simp[BA]
theorem ba_inj{a b:List UInt8}(h:BA a=BA b):a=b:=by
 have:=congrArg (fun x=>x.data.toList) h;simpa [BA] using this
def sbnd(d:Nat):Option Value→Option Nat
 | none=>some d
 | some (.int _ i)=>if 0≤i then some i.toNat else none
 | _=>none
def tss2(s:ByteArray)(alt:Option Res):Option TypeDesc→Option Nat→Option Nat→Option Res
 | some .string,some l,some h=>if l≤h∧h≤s.size then some { v:=.string (s.extract l h) } else alt
 | _,_,_=>alt
def tss(P:Program)(t:TypeId)(alt:Option Res)(lo hi:Option Value):Value→Option Res
 | .string s=>tss2 s alt (P.underlying t) (sbnd 0 lo) (sbnd s.size hi)
 | _=>alt
def aopK(P:Program)(ρ:Operand→Value)(n:Nat)(H:Heap)(o:Oper):Option Res:=aop P ρ n H o
theorem bounds_run{P:Program}{N:Nat}{lo hi:Option Value}{l h:Nat}(hl:sbnd 0 lo=some l)(hh:sbnd N hi=some h)(h1:l≤h)(h2:h≤N) :
  pureRun P (Instr.sliceBounds false N N lo hi none)=some (l,h,N):=by
 have ilo:lo=none∧l=0∨∃k i,lo=some (.int k i)∧0≤i∧i.toNat=l:=by
  cases lo with
  | none=>left;cases hl;exact⟨rfl,rfl⟩
  | some v =>
   right
   cases v <;> try (cases hl;done)
   rename_i k i
   simp only[sbnd]at hl
   split at hl
   ·cases hl;exact⟨k,i,rfl,by omega,rfl⟩
   ·cases hl
 have ihi:hi=none∧h=N∨∃k i,hi=some (.int k i)∧0≤i∧i.toNat=h:=by
  cases hi with
  | none=>left;cases hh;exact⟨rfl,rfl⟩
  | some v =>
   right
   cases v <;> try (cases hh;done)
   rename_i k i
   simp only[sbnd]at hh
   split at hh
   ·cases hh;exact⟨k,i,rfl,by omega,rfl⟩
   ·cases hh
 rcases ilo with⟨rfl,rfl⟩|⟨k,i,rfl,hi0,rfl⟩ <;> rcases ihi with⟨rfl,rfl⟩|⟨k',j,rfl,hj0,rfl⟩
 ·rfl
 ·have c:0≤j∧j≤N:=by omega
  simp[Instr.sliceBounds,Instr.sliceBound,asIntOf,bind,Sem.bind,pure,c,pureRun]
 ·have c:0≤i∧i≤h:=by omega
  simp[Instr.sliceBounds,Instr.sliceBound,asIntOf,bind,Sem.bind,pure,c,pureRun]
 ·have c:0≤j∧j≤N:=by omega
  have c2:0≤i∧i≤j:=by omega
  simp[Instr.sliceBounds,Instr.sliceBound,asIntOf,bind,Sem.bind,pure,c,pureRun]
  rw[if_pos (by omega)];rfl
theorem slice_run{P:Program}{t:TypeId}{s:ByteArray}{lo hi:Option Value}{l h:Nat}(ht:P.underlying t=some .string)(hl:sbnd 0 lo=some l)(hh:sbnd s.size hi=some h)(h1:l≤h)(h2:h≤s.size) :
  pureRun P (Instr.sliceAt t (.string s) lo hi none)=some (.string (s.extract l h)):=by
 have hu:pureRun P (underlying t)=some .string:=by
  unfold underlying
  refine(pureRun_bind _ _ (a:=P) rfl).trans ?_
  rw[ht];rfl
 unfold Instr.sliceAt
 refine(pureRun_bind _ _ hu).trans ?_
 show pureRun P (Instr.slice t (.string s) lo hi none)=_
 unfold Instr.slice
 refine(pureRun_bind _ _ hu).trans ?_
 refine(pureRun_bind _ _ (a:=(l,h,s.size)) (bounds_run hl hh h1 h2)).trans rfl
theorem aop_ssl{P:Program}{f:Fr}{n:Nat}{H:Heap}{d:Option Nat}{t:TypeId}{x:Operand}{lo hi:Option Operand}{ty:TypeId}{p:String}{af:Array Edge}{gd:Option (Nat × Bool)} :
  aop P (evalA f) n H ⟨d,.slice t x lo hi none,ty,p,af,gd⟩=tss P t (aopK P (evalA f) n H ⟨d,.slice t x lo hi none,ty,p,af,gd⟩) (lo.map (evalA f)) (hi.map (evalA f)) (evalA f x):=by
 unfold tss
 split
 ·rename_i s hx
  unfold tss2
  split
  ·rename_i l h ht hl hh
   split
   ·rename_i hb
    have hr:=slice_run ht hl hh hb.1 hb.2
    have fl:∀(o:Option Operand) (d m:Nat),sbnd d (o.map (evalA f))=some m→∀y∈o.toList,flat (evalA f y)=true:=by
     intro o d m ho y hy
     cases o with
     | none=>simp at hy
     | some z =>
      simp at hy;subst hy
      simp only[Option.map_some]at ho
      cases hv:evalA f y <;> rw[hv]at ho <;> first|rfl|(simp[sbnd]at ho)
    simp only[aop,hx]
    unfold aflat
    have hf:opFlat (evalA f) ⟨d,.slice t x lo hi none,ty,p,af,gd⟩=true:=by
     unfold opFlat
     rw[Array.all_eq_true']
     intro y hy
     simp only[Op.operands,Array.mem_append,Option.mem_toArray]at hy
     rcases hy with((hy|hy)|hy)|hy
     ·simp at hy;subst hy;rw[hx];rfl
     ·exact fl lo _ _ hl y (by simpa using hy)
     ·exact fl hi _ _ hh y (by simpa using hy)
     ·cases hy
    rw[if_pos hf]
    have he:pureRun P (execOp (evalA f) ⟨d,.slice t x lo hi none,ty,p,af,gd⟩)=some (.value (.string (s.extract l h))):=by
     simp only[execOp,hx]
     exact(pureRun_bind _ _ hr).trans rfl
    rw[he];rfl
   ·rfl
  ·rfl
 ·rfl
end Go.AM
namespace Go.AM
def dN(n:Nat):List UInt8:=if h:n<10 then [UInt8.ofNat (48+n)] else dN (n / 10)++[UInt8.ofNat (48+n % 10)]
termination_by n
decreasing_by omega
def dI(z:Int):List UInt8:=if z<0 then 45::dN z.natAbs else dN z.natAbs
theorem dN_lt{n:Nat}(h:n<10):dN n=[UInt8.ofNat (48+n)]:=by unfold dN;rw[dif_pos h]
theorem dN_ge{n:Nat}(h:¬n<10):dN n=dN (n / 10)++[UInt8.ofNat (48+n % 10)]:=by
 rw[dN.eq_1 n,dif_neg h]
theorem dig_nat{a:Nat}(h:a<10):(UInt8.ofNat (48+a)).toNat=48+a:=by simp;omega
theorem dN_dig(n:Nat):∀b,b∈dN n→48≤b.toNat∧b.toNat≤57:=by
 induction n using Nat.strongRecOn with
 | ind n ih =>
  intro b hb
  by_cases h:n<10
  ·rw[dN_lt h]at hb
   have:b=UInt8.ofNat (48+n):=by simpa using hb
   rw[this,dig_nat h];omega
  ·rw[dN_ge h]at hb
   rcases List.mem_append.1 hb with h1|h1
   ·exact ih (n / 10) (by omega) b h1
   ·have:b=UInt8.ofNat (48+n % 10):=by simpa using h1
    rw[this,dig_nat (by omega)];omega
theorem dN_pos(n:Nat):0<(dN n).length:=by
 by_cases h:n<10
 ·rw[dN_lt h];simp
 ·rw[dN_ge h];simp
theorem dN_inj:∀{n m:Nat},dN n=dN m→n=m:=by
 intro n
 induction n using Nat.strongRecOn with
 | ind n ih =>
  intro m h
  by_cases h1:n<10 <;> by_cases h2:m<10
  ·rw[dN_lt h1,dN_lt h2]at h
   have:=congrArg UInt8.toNat (List.cons.inj h).1
   rw[dig_nat h1,dig_nat h2]at this;omega
  ·rw[dN_lt h1,dN_ge h2]at h
   have h3:=congrArg List.length h
   have h4:=dN_pos (m / 10)
   simp only[List.length_append,List.length_singleton]at h3;omega
  ·rw[dN_ge h1,dN_lt h2]at h
   have h3:=congrArg List.length h
   have h4:=dN_pos (n / 10)
   simp only[List.length_append,List.length_singleton]at h3;omega
  ·rw[dN_ge h1,dN_ge h2]at h
   have h3:=List.append_inj' h rfl
   have h4:=ih (n / 10) (by omega) h3.1
   have h5:=congrArg UInt8.toNat (List.cons.inj h3.2).1
   rw[dig_nat (by omega),dig_nat (by omega)]at h5
   omega
theorem dN_len:∀(n L:Nat),n<10 ^ L→0<L→(dN n).length≤L:=by
 intro n
 induction n using Nat.strongRecOn with
 | ind n ih =>
  intro L h h0
  by_cases h1:n<10
  ·rw[dN_lt h1];simp;omega
  ·rw[dN_ge h1]
   match L,h0 with
   | L+1,_ =>
    have h2:n / 10<10 ^ L:=by rw[Nat.pow_succ]at h;omega
    have h3:0<L:=by
     rcases Nat.eq_zero_or_pos L with rfl|h3
     ·simp at h2;omega
     ·exact h3
    have:=ih (n / 10) (by omega) L h2 h3
    simp;omega
theorem dI_inj{a b:Int}(h:dI a=dI b):a=b:=by
 have no:∀n l,dN n≠45::l:=fun n l e=>by
  have:=dN_dig n 45 (by rw[e];simp)
  simp at this
 unfold dI at h
 split at h <;> split at h
 ·have:=dN_inj (List.cons.inj h).2;omega
 ·exact absurd h.symm (no _ _)
 ·exact absurd h (no _ _)
 ·have:=dN_inj h;omega
theorem dI_nosp(z:Int):∀b,b∈dI z→b≠32:=by
 intro b hb e
 subst e
 unfold dI at hb
 split at hb
 ·rcases List.mem_cons.1 hb with h|h
  ·cases h
  ·have:=dN_dig _ _ h
   simp at this
 ·have:=dN_dig _ _ hb
  simp at this
theorem dI_len(z:Int)(h1 : -9223372036854775808≤z)(h2:z≤9223372036854775807):(dI z).length≤20:=by
 have:(dN z.natAbs).length≤19:=dN_len _ 19 (by simp;omega) (by omega)
 unfold dI
 split
 ·simp;omega
 ·omega
def dL:List Int→List UInt8
 | []=>[]
 | z::l=>dI z++(l.flatMap fun x=>32::dI x)
theorem cut_sp:∀{a b c d:List UInt8},(∀x,x∈a→x≠32)→(∀x,x∈b→x≠32)→(c=[]∨∃c',c=32::c')→(d=[]∨∃d',d=32::d')→a++c=b++d→a=b∧c=d:=by
 intro a
 induction a with
 | nil =>
  intro b c d _ hb hc hd h
  cases b with
  | nil=>exact⟨rfl,by simpa using h⟩
  | cons y b =>
   exfalso
   rcases hc with rfl|⟨c',rfl⟩
   ·simp at h
   ·simp only[List.nil_append,List.cons_append,List.cons.injEq]at h
    exact hb y (List.mem_cons_self ..) h.1.symm
 | cons x a ih =>
  intro b c d ha hb hc hd h
  cases b with
  | nil =>
   exfalso
   rcases hd with rfl|⟨d',rfl⟩
   ·simp at h
   ·simp only[List.nil_append,List.cons_append,List.cons.injEq]at h
    exact ha x (List.mem_cons_self ..) h.1
  | cons y b =>
   simp only[List.cons_append,List.cons.injEq]at h
   obtain⟨h1,h2⟩:=ih (fun z hz=>ha z (List.mem_cons_of_mem _ hz)) (fun z hz=>hb z (List.mem_cons_of_mem _ hz)) hc hd h.2
   exact⟨by rw[h.1,h1],h2⟩
theorem tail_sp(l:List Int):(l.flatMap fun x=>32::dI x)=[]∨∃c,(l.flatMap fun x=>32::dI x)=32::c:=by
 cases l with
 | nil=>exact .inl rfl
 | cons z l=>exact .inr ⟨_,rfl⟩
theorem tail_inj:∀{l m:List Int},(l.flatMap fun x=>32::dI x)=(m.flatMap fun x=>32::dI x)→l=m
 | [],[],_=>rfl
 | [],_::_,h=>by simp at h
 | _::_,[],h=>by simp at h
 | x::l,y::m,h=>by
  simp only[List.flatMap_cons,List.cons_append,List.cons.injEq,true_and]at h
  obtain⟨h1,h2⟩:=cut_sp (dI_nosp x) (dI_nosp y) (tail_sp l) (tail_sp m) h
  rw[dI_inj h1,tail_inj h2]
theorem dL_inj{l m:List Int}(hl:l≠[])(hm:m≠[])(h:dL l=dL m):l=m:=by
 match l,m,hl,hm with
 | x::l,y::m,_,_ =>
  obtain⟨h1,h2⟩:=cut_sp (dI_nosp x) (dI_nosp y) (tail_sp l) (tail_sp m) h
  rw[dI_inj h1,tail_inj h2]
end Go.AM
namespace Go.AM
open Go.RowKit
def enc2(x:Option Addr × List Int):Value:=.slice x.1 x.2.length x.2.length
def R2(H:Heap)(a:Option Addr)(N:List (List Int)):Prop :=
 ∃Ns:List (Option Addr × List Int),N=Ns.map (·.2)∧RA enc2 H a Ns∧∀x,x∈Ns→RA (Value.int .i64) H x.1 x.2
theorem R2.mono{n n':Nat}{H H':Heap}{a:Option Addr}{N:List (List Int)}(h:R2 H a N)(hw:WF n H)(hk:Kp n H n' H'):R2 H' a N:=by
 obtain⟨Ns,e,h1,h2⟩:=h
 exact⟨Ns,e,h1.mono hw hk,fun x hx=>(h2 x hx).mono hw hk⟩
theorem R2.at{H:Heap}{a:Option Addr}{N:List (List Int)}(h:R2 H a N){i:Nat}(hi:i<N.length) :
  ∃x k cs ty own p,a=some ⟨x,k,none⟩∧H x=.cells cs ty own∧cs[k+i]? = some (.slice p N[i].length N[i].length)∧RA (Value.int .i64) H p N[i]:=by
 obtain⟨Ns,rfl,h1,h2⟩:=h
 have hi':i<Ns.length:=by simpa using hi
 obtain⟨x,k,cs,ty,own,e1,e2,e3⟩:=h1.at hi'
 refine⟨x,k,cs,ty,own,Ns[i].1,e1,e2,?_,?_⟩
 ·rw[e3];simp[enc2]
 ·simpa using h2 _ (List.getElem_mem hi')
theorem R2.base{H:Heap}{a:Option Addr}{N:List (List Int)}(h:R2 H a N)(hN:N≠[]) :
  ∃x k cs ty own,a=some ⟨x,k,none⟩∧H x=.cells cs ty own∧∀i (hi:i<N.length),∃p,cs[k+i]? = some (.slice p N[i].length N[i].length)∧RA (Value.int .i64) H p N[i]:=by
 have h0:0<N.length:=by cases N with
  | nil=>exact absurd rfl hN
  | cons=>simp
 obtain⟨x,k,cs,ty,own,p,e1,e2,_⟩:=h.at h0
 refine⟨x,k,cs,ty,own,e1,e2,fun i hi=>?_⟩
 obtain⟨x',k',cs',ty',own',p',f1,f2,f3,f4⟩:=h.at hi
 rw[e1]at f1
 cases f1
 rw[e2]at f2
 cases f2
 exact⟨p',f3,f4⟩
def acells(a b:Option Addr)(N:List (List Int))(R:List Int):List Value:=[.slice a N.length N.length,.slice b R.length R.length]
def RD(H:Heap)(v:Value)(N:List (List Int))(R:List Int):Prop:=∃a b,v=.agg (acells a b N R).toArray∧R2 H a N∧RA (Value.int .i64) H b R
theorem abox_cells(a b:Option Addr)(N:List (List Int))(R:List Int):vcells (.agg (acells a b N R).toArray)=acells a b N R:=rfl
theorem abox_one(a b:Option Addr)(N:List (List Int))(R:List Int):(acells a b N R).all one=true:=rfl
theorem ac_0(a b:Option Addr)(N:List (List Int))(R:List Int):(acells a b N R)[0]? = some (.slice a N.length N.length):=rfl
theorem ac_1(a b:Option Addr)(N:List (List Int))(R:List Int):(acells a b N R)[1]? = some (.slice b R.length R.length):=rfl
theorem ac_len(a b:Option Addr)(N:List (List Int))(R:List Int):(acells a b N R).length=2:=rfl
theorem ac_all(a b:Option Addr)(N:List (List Int))(R:List Int):((acells a b N R).drop 0).take 2=acells a b N R:=rfl
structure WA(N:List (List Int))(R:List Int):Prop where
 n:N.length≤maxL
 r:R.length≤maxL
 row:∀l,l∈N→l.length≤maxL∧∀y,y∈l→inI y
 rule:∀y,y∈R→inI y
theorem RD.mono{n n':Nat}{H H':Heap}{v:Value}{N:List (List Int)}{R:List Int}(h:RD H v N R)(hw:WF n H)(hk:Kp n H n' H'):RD H' v N R:=by
 obtain⟨a,b,e,h1,h2⟩:=h
 exact⟨a,b,e,h1.mono hw hk,h2.mono hw hk⟩
theorem R2.nil{H:Heap}{a:Option Addr}:R2 H a []:=⟨[],rfl,fun h=>absurd rfl h,fun x hx=>by cases hx⟩
theorem LL.r2{m:Nat}{H:Heap}{x ty ety:Nat}{ls:List (List Int)}{ys:Nat→Nat}(h:LL m H x ty ety (fun z=>[Value.int .i64 z]) ls ys):R2 H (some ⟨x,0,none⟩) ls:=by
 refine⟨ls.mapIdx fun v l=>(slp (ys v) l.length,l),?_,fun _=>⟨x,0,_,ty,true,rfl,h.hx,fun i y hy=>?_⟩,fun y hy=>?_⟩
 ·apply List.ext_getElem?
  intro i
  rw[List.getElem?_map,List.getElem?_mapIdx]
  cases ls[i]? <;> rfl
 ·rw[Nat.zero_add]
  rw[List.getElem?_mapIdx]at hy
  obtain⟨l,hl,rfl⟩:=Option.map_eq_some_iff.1 hy
  obtain⟨hi,e⟩:=List.getElem?_eq_some_iff.1 hl
  rw[llcells_at ys hi,sl_eq,e];rfl
 ·obtain⟨i,hi,e⟩:=List.getElem_of_mem hy
  simp only[List.length_mapIdx]at hi
  rw[List.getElem_mapIdx]at e
  subst e
  intro hn
  refine⟨ys i,0,_,ety,true,slp_pos (by intro h0;exact hn (List.length_eq_zero_iff.1 h0)),h.hy i hi hn,fun j y hj=>?_⟩
  rw[Nat.zero_add]
  have:∀l:List Int,(l.flatMap fun z=>[Value.int .i64 z])=l.map (Value.int .i64):=fun l=>by induction l <;> simp_all
  rw[this,List.getElem?_map,hj];rfl
end Go.AM
namespace Go.AM.Mini
def at1(R:List Int)(s:Nat):Int:=R.getD s (-1)
def at2(N:List (List Int))(s t:Nat):Int:=at1 (N.getD s []) t
structure Ok(N:List (List Int))(R:List Int)(w:Nat):Prop where
 pos:0<N.length
 len:N.length=R.length
 wpos:0<w
 row:∀s,s<N.length→(N.getD s []).length=w
 rule:∀s,s<N.length → -1≤at1 R s
 lo:∀s,s<N.length→∀t,t<w → -1≤at2 N s t
 hi:∀s,s<N.length→∀t,t<w→at2 N s t<N.length
 fin:∀s,s<N.length→∀t,t<w→0≤at2 N s t→at1 R s<0
theorem Ok.nat{N R w}(h:Ok N R w){s t:Nat}(hs:s<N.length)(ht:t<w)(h0:0≤at2 N s t):(at2 N s t).toNat<N.length:=by
 have:=h.hi s hs t ht;omega
structure Bis(N:List (List Int))(R:List Int)(N':List (List Int))(R':List Int)(w:Nat)(B:Nat→Nat→Prop):Prop where
 rule:∀s u,B s u→at1 R s=at1 R' u
 sgn:∀s u,B s u→∀t,t<w→(at2 N s t<0↔at2 N' u t<0)
 go:∀s u,B s u→∀t,t<w→0≤at2 N s t→B (at2 N s t).toNat (at2 N' u t).toNat
def Sim(N:List (List Int))(R:List Int)(N':List (List Int))(R':List Int)(w:Nat)(s u:Nat):Prop:=∃B,Bis N R N' R' w B∧B s u
section
variable {N N' N'':List (List Int)} {R R' R'':List Int} {w:Nat}
theorem sim_bis:Bis N R N' R' w (Sim N R N' R' w) where
 rule:=fun s u ⟨_,hB,h⟩=>hB.rule s u h
 sgn:=fun s u ⟨_,hB,h⟩=>hB.sgn s u h
 go:=fun s u ⟨B,hB,h⟩ t ht h0=>⟨B,hB,hB.go s u h t ht h0⟩
theorem Sim.refl(s:Nat):Sim N R N R w s s :=
 ⟨fun a b=>a=b,⟨fun s u h=>by rw[h],fun s u h t _=>by rw[h],fun s u h t _ _=>by rw[h]⟩,rfl⟩
theorem Sim.symm{s u:Nat}(h:Sim N R N' R' w s u):Sim N' R' N R w u s :=
 ⟨fun a b=>Sim N R N' R' w b a,⟨fun s u h=>(sim_bis.rule u s h).symm,fun s u h t ht=>(sim_bis.sgn u s h t ht).symm,fun s u h t ht h0=>by
  have:=(sim_bis.sgn u s h t ht)
  exact sim_bis.go u s h t ht (by omega)⟩,h⟩
theorem Sim.trans{s u v:Nat}(h:Sim N R N' R' w s u)(h':Sim N' R' N'' R'' w u v):Sim N R N'' R'' w s v :=
 ⟨fun a c=>∃b,Sim N R N' R' w a b∧Sim N' R' N'' R'' w b c,⟨fun s u ⟨b,h1,h2⟩=>(sim_bis.rule _ _ h1).trans (sim_bis.rule _ _ h2),fun s u ⟨b,h1,h2⟩ t ht=>(sim_bis.sgn _ _ h1 t ht).trans (sim_bis.sgn _ _ h2 t ht),
  fun s u ⟨b,h1,h2⟩ t ht h0=>by
   have:=sim_bis.sgn _ _ h1 t ht
   exact⟨_,sim_bis.go _ _ h1 t ht h0,sim_bis.go _ _ h2 t ht (by omega)⟩⟩,⟨u,h,h'⟩⟩
end
theorem erase_len{α:Type}[BEq α][LawfulBEq α]{l:List α}{a:α}(h:a∈l):(l.erase a).length+1=l.length:=by
 rw[List.length_erase_of_mem h]
 have:=List.length_pos_of_mem h
 omega
theorem sub_len{α:Type}[BEq α][LawfulBEq α]:∀{l m:List α},l.Nodup→(∀x,x∈l→x∈m)→l.length≤m.length:=by
 intro l
 induction l with
 | nil=>intro m _ _;simp
 | cons a l ih =>
  intro m hn hs
  rw[List.nodup_cons]at hn
  have ha:=hs a (List.mem_cons_self ..)
  have:=ih (m:=m.erase a) hn.2 (fun x hx=>by
   have hne:x≠a:=fun e=>hn.1 (e ▸ hx)
   exact(List.mem_erase_of_ne hne).2 (hs x (List.mem_cons_of_mem _ hx)))
  have h2:=erase_len ha
  simp only[List.length_cons];omega
theorem nodup_of_len {α : Type} [BEq α] [LawfulBEq α] : ∀ {l m : List α}, l.Nodup → (∀ x, x ∈ l → x ∈ m) → m.length ≤ l.length → m.Nodup := by
  intro l m hl hs hlen
  induction m generalizing l with
  | nil => exact List.nodup_nil
  | cons a m ih =>
    by_cases ham : a ∈ m
    · have h := sub_len (m := m) hl (fun x hx => by
        rcases List.mem_cons.1 (hs x hx) with rfl | h
        · exact ham
        · exact h)
      simp only [List.length_cons] at hlen; omega
    · rw [List.nodup_cons]
      refine ⟨ham, ih (l := l.erase a) (hl.erase a) (fun x hx => ?_) ?_⟩
      · have h1 := (List.Nodup.mem_erase_iff hl).1 hx
        rcases List.mem_cons.1 (hs x h1.2) with h | h
        · exact absurd h h1.1
        · exact h
      · by_cases ha : a ∈ l
        · have := erase_len ha
          simp only [List.length_cons] at hlen; omega
        · rw [List.erase_of_not_mem ha]
          have h := sub_len (m := m) hl (fun x hx => by
            rcases List.mem_cons.1 (hs x hx) with rfl | h
            · exact absurd hx ha
            · exact h)
          simp only [List.length_cons] at hlen
          omega
theorem same_len{α:Type}[BEq α][LawfulBEq α]{l m:List α}(hl:l.Nodup)(hm:m.Nodup)(h:∀x,x∈l↔x∈m):l.length=m.length :=
 Nat.le_antisymm (sub_len hl fun x hx=>(h x).1 hx) (sub_len hm fun x hx=>(h x).2 hx)
theorem map_inj_of_nodup{α β:Type}{f:α→β}:∀{l:List α},(l.map f).Nodup→∀a,a∈l→∀b,b∈l→f a=f b→a=b:=by
 intro l
 induction l with
 | nil=>intro _ a ha;cases ha
 | cons x l ih =>
  intro hn a ha b hb he
  simp only[List.map_cons,List.nodup_cons,List.mem_map,not_exists,not_and]at hn
  rcases List.mem_cons.1 ha with e1|ha1
  ·rcases List.mem_cons.1 hb with e2|hb1
   ·rw[e1,e2]
   ·exact absurd he.symm (by rw[e1];exact hn.1 b hb1)
  ·rcases List.mem_cons.1 hb with e2|hb1
   ·exact absurd he (by rw[e2];exact hn.1 a ha1)
   ·exact ih hn.2 a ha1 b hb1 he
section
variable {κ:Type} [DecidableEq κ]
def known(f:Nat→κ):Nat→List κ
 | 0=>[]
 | s+1=>if f s∈known f s then known f s else known f s++[f s]
def num(f:Nat→κ)(n s:Nat):Nat:=(known f n).idxOf (f s)
theorem known_nodup (f : Nat → κ) (n : Nat) : (known f n).Nodup := by
  induction n with
  | zero => exact List.nodup_nil
  | succ n ih =>
    unfold known
    split
    · exact ih
    · rename_i h
      rw [List.nodup_append]
      exact ⟨ih, by simp, fun a ha b hb e => h (by have : b = f n := by simpa using hb
                                                   rw [← this, ← e]; exact ha)⟩
theorem mem_known(f:Nat→κ)(n:Nat)(x:κ):x∈known f n↔∃s,s<n∧f s=x:=by
 induction n with
 | zero=>simp[known]
 | succ n ih =>
  have key:x∈known f (n+1)↔x∈known f n∨f n=x:=by
   show x∈(if f n∈known f n then known f n else known f n++[f n])↔_
   split
   ·rename_i h
    exact⟨Or.inl,fun h'=>h'.elim id (fun e=>e ▸ h)⟩
   ·simp[eq_comm]
  rw[key,ih]
  constructor
  ·rintro(⟨s,hs,e⟩|e)
   ·exact⟨s,by omega,e⟩
   ·exact⟨n,by omega,e⟩
  ·rintro⟨s,hs,e⟩
   by_cases h:s=n
   ·subst h;exact Or.inr e
   ·exact Or.inl ⟨s,by omega,e⟩
theorem known_pre (f : Nat → κ) (s n : Nat) (h : s ≤ n) : ∃ r, known f n = known f s ++ r := by
  induction n with
  | zero => have : s = 0 := by omega
            subst this; exact ⟨[], by simp⟩
  | succ n ih =>
    by_cases e : s = n + 1
    · subst e; exact ⟨[], by simp⟩
    · obtain ⟨r, hr⟩ := ih (by omega)
      show ∃ r, (if f n ∈ known f n then known f n else known f n ++ [f n]) = _
      split
      · exact ⟨r, hr⟩
      · exact ⟨r ++ [f n], by rw [hr, List.append_assoc]⟩
theorem num_at(f:Nat→κ){s m n:Nat}(h:s<m)(hm:m≤n):num f n s=(known f m).idxOf (f s):=by
 obtain⟨r,hr⟩:=known_pre f m n hm
 unfold num
 rw[hr,List.idxOf_append,if_pos ((mem_known f m _).2 ⟨s,h,rfl⟩)]
theorem num_eq(f:Nat→κ){n s u:Nat}(hs:s<n)(hu:u<n):num f n s=num f n u↔f s=f u:=by
 constructor
 ·intro h
  have h1:num f n s<(known f n).length:=List.idxOf_lt_length_of_mem ((mem_known f n _).2 ⟨s,hs,rfl⟩)
  have h2:num f n u<(known f n).length:=List.idxOf_lt_length_of_mem ((mem_known f n _).2 ⟨u,hu,rfl⟩)
  have e1:(known f n)[num f n s]=f s:=List.getElem_idxOf h1
  have e2:(known f n)[num f n u]=f u:=List.getElem_idxOf h2
  rw[←e1,←e2]
  congr 1
 ·intro h;unfold num;rw[h]
theorem num_lt(f:Nat→κ){n s:Nat}(hs:s<n):num f n s<(known f n).length:=List.idxOf_lt_length_of_mem ((mem_known f n _).2 ⟨s,hs,rfl⟩)
theorem idx_nodup{α:Type}[DecidableEq α]{l:List α}(h:l.Nodup)(v:Nat)(hv:v<l.length):l.idxOf l[v]=v:=by
 have h1:l.idxOf l[v]<l.length:=List.idxOf_lt_length_of_mem (List.getElem_mem hv)
 have e:l[l.idxOf l[v]]=l[v]:=List.getElem_idxOf h1
 have hp:=List.pairwise_iff_getElem.1 h
 rcases Nat.lt_trichotomy (l.idxOf l[v]) v with h2|h2|h2
 ·exact absurd e (hp _ _ h1 hv h2)
 ·exact h2
 ·exact absurd e.symm (hp _ _ hv h1 h2)
theorem num_all(f:Nat→κ)(n v:Nat)(hv:v<(known f n).length):∃s,s<n∧num f n s=v:=by
 obtain⟨s,hs,e⟩:=(mem_known f n _).1 (List.getElem_mem hv)
 refine⟨s,hs,?_⟩
 unfold num
 rw[e]
 exact idx_nodup (known_nodup f n) v hv
theorem known_len(f:Nat→κ)(n:Nat):(known f n).length≤n:=by
 induction n with
 | zero=>simp[known]
 | succ n ih =>
  unfold known
  split
  ·omega
  ·simp;omega
end
def tgt(K:List Int)(x:Int):Int:=if 0≤x then at1 K x.toNat else -1
def key(N:List (List Int))(R K:List Int)(s:Nat):List Int:=at1 K s::at1 R s::(N.getD s []).map (tgt K)
def next(N:List (List Int))(R K:List Int):List Int:=(List.range N.length).map fun s=>((num (key N R K) N.length s:Nat):Int)
def cnt(N:List (List Int))(R K:List Int):Nat:=(known (key N R K) N.length).length
theorem at1_next{N R K}{s:Nat}(h:s<N.length):at1 (next N R K) s=((num (key N R K) N.length s:Nat):Int):=by
 unfold at1 next
 simp[List.getD,h]
theorem next_len(N R K):(next N R K).length=N.length:=by simp[next]
structure Rnd(N:List (List Int))(R:List Int)(w:Nat)(K:List Int)(c:Nat):Prop where
 len:K.length=N.length
 same:∀s u,s<N.length→u<N.length→Sim N R N R w s u→at1 K s=at1 K u
 nn:∀s,s<N.length→0≤at1 K s
 all:∀v,v<c→∃s,s<N.length∧at1 K s=(v:Int)
theorem at2_row{N:List (List Int)}{s t:Nat}(h:t<(N.getD s []).length):(N.getD s [])[t]=at2 N s t:=by
 unfold at2 at1
 generalize N.getD s []=l at *
 rw[List.getD_eq_getElem?_getD,List.getElem?_eq_getElem h]
 rfl
theorem key_eq{N R K w}(h:Ok N R w){s u:Nat}(hs:s<N.length)(hu:u<N.length) :
  key N R K s=key N R K u↔at1 K s=at1 K u∧at1 R s=at1 R u∧∀t,t<w→tgt K (at2 N s t)=tgt K (at2 N u t):=by
 unfold key
 simp only[List.cons.injEq]
 refine and_congr Iff.rfl (and_congr Iff.rfl ?_)
 constructor
 ·intro e t ht
  have h1:((N.getD s []).map (tgt K))[t]? = ((N.getD u []).map (tgt K))[t]?:=by rw[e]
  have a1:t<(N.getD s []).length:=by rw[h.row s hs];exact ht
  have a2:t<(N.getD u []).length:=by rw[h.row u hu];exact ht
  rw[List.getElem?_map,List.getElem?_map,List.getElem?_eq_getElem a1,List.getElem?_eq_getElem a2,at2_row,at2_row]at h1
  simpa using h1
 ·intro e
  apply List.ext_getElem
  ·simp only[List.length_map,h.row s hs,h.row u hu]
  ·intro t h1 h2
   simp only[List.getElem_map,at2_row]
   exact e t (by rw[List.length_map,h.row s hs]at h1;exact h1)
theorem Rnd.step{N R w K c}(h:Ok N R w)(hr:Rnd N R w K c):Rnd N R w (next N R K) (cnt N R K) where
 len:=next_len ..
 same:=fun s u hs hu hsim=>by
  rw[at1_next hs,at1_next hu]
  have:key N R K s=key N R K u:=(key_eq h hs hu).2 ⟨hr.same s u hs hu hsim,sim_bis.rule _ _ hsim,fun t ht=>by
   have hsg:=sim_bis.sgn _ _ hsim t ht
   unfold tgt
   by_cases h0:0≤at2 N s t
   ·rw[if_pos h0,if_pos (by omega)]
    have:=sim_bis.go _ _ hsim t ht h0
    exact hr.same _ _ (h.nat hs ht h0) (h.nat hu ht (by omega)) this
   ·rw[if_neg h0,if_neg (by omega)]⟩
  rw[((num_eq (key N R K) hs hu).2 this)]
 nn:=fun s hs=>by rw[at1_next hs];omega
 all:=fun v hv=>by
  obtain⟨s,hs,e⟩:=num_all (key N R K) N.length v hv
  exact⟨s,hs,by rw[at1_next hs,e]⟩
theorem first_rnd{N R w}:Rnd N R w (List.replicate N.length 0) 0 where
 len:=by simp
 same:=fun s u hs hu _=>by unfold at1;simp[List.getD,hs,hu]
 nn:=fun s hs=>by unfold at1;simp[List.getD,hs]
 all:=fun v hv=>by omega
theorem cnt_le(N R K):cnt N R K≤N.length:=known_len ..
theorem heads{N R w K c}(hr:Rnd N R w K c):∀x,x∈(List.range c).map (fun(v:Nat)=>(v:Int))→x∈(known (key N R K) N.length).map fun l=>l.headD 0:=by
 intro x hx
 obtain⟨v,hv,rfl⟩:=List.mem_map.1 hx
 obtain⟨s,hs,e⟩:=hr.all v (by simpa using hv)
 exact List.mem_map.2 ⟨key N R K s,(mem_known _ _ _).2 ⟨s,hs,rfl⟩,by simp[key,e]⟩
theorem range_nodup(c:Nat):((List.range c).map (fun(v:Nat)=>(v:Int))).Nodup:=by
 rw[List.nodup_iff_pairwise_ne,List.pairwise_map]
 exact(List.nodup_range).imp fun h e=>h (by omega)
theorem cnt_ge{N R w K c}(hr:Rnd N R w K c):c≤cnt N R K:=by
 have:=sub_len (range_nodup c) (heads hr)
 simpa [cnt] using this
theorem last_rnd{N R w K}(h:Ok N R w)(hr:Rnd N R w K (cnt N R K)){s u:Nat}(hs:s<N.length)(hu:u<N.length) :
  at1 (next N R K) s=at1 (next N R K) u↔Sim N R N R w s u:=by
 refine⟨fun e=>?_,(hr.step h).same s u hs hu⟩
 have inj:∀a b,a<N.length→b<N.length→at1 K a=at1 K b→key N R K a=key N R K b:=by
  intro a b ha hb e
  have hn:=nodup_of_len (range_nodup _) (heads hr) (by simp[cnt])
  exact map_inj_of_nodup hn _ ((mem_known _ _ _).2 ⟨a,ha,rfl⟩) _ ((mem_known _ _ _).2 ⟨b,hb,rfl⟩) (by simp[key,e])
 refine⟨fun a b=>a<N.length∧b<N.length∧key N R K a=key N R K b,⟨fun a b ⟨ha,hb,e⟩=>((key_eq h ha hb).1 e).2.1,fun a b ⟨ha,hb,e⟩ t ht=>?_,fun a b ⟨ha,hb,e⟩ t ht h0=>?_⟩,hs,hu,?_⟩
 ·have:=((key_eq h ha hb).1 e).2.2 t ht
  unfold tgt at this
  by_cases h0:0≤at2 N a t
  ·rw[if_pos h0]at this
   by_cases h1:0≤at2 N b t
   ·omega
   ·rw[if_neg h1]at this
    have:=hr.nn _ (h.nat ha ht h0)
    omega
  ·rw[if_neg h0]at this
   by_cases h1:0≤at2 N b t
   ·rw[if_pos h1]at this
    have:=hr.nn _ (h.nat hb ht h1)
    omega
   ·omega
 ·have h2:=((key_eq h ha hb).1 e).2.2 t ht
  unfold tgt at h2
  rw[if_pos h0]at h2
  have h1:0≤at2 N b t:=by
   by_cases h1:0≤at2 N b t
   ·exact h1
   ·rw[if_neg h1]at h2
    have:=hr.nn _ (h.nat ha ht h0)
    omega
  rw[if_pos h1]at h2
  exact⟨h.nat ha ht h0,h.nat hb ht h1,inj _ _ (h.nat ha ht h0) (h.nat hb ht h1) h2⟩
 ·rw[at1_next hs,at1_next hu]at e
  exact(num_eq _ hs hu).1 (by omega)
end Go.AM.Mini
namespace Go.AM.Mini
def lstep(kf:Nat→Int)(x:Int)(fr:List Nat):Int × List Nat :=
 if x<0 then(-1,fr) else if kf x.toNat∈fr.map kf then((((fr.map kf).idxOf (kf x.toNat):Nat):Int),fr) else((fr.length:Int),fr++[x.toNat])
def lrow(kf:Nat→Int):List Int→List Nat→List Int × List Nat
 | [],fr=>([],fr)
 | x::xs,fr=>((lstep kf x fr).1::(lrow kf xs (lstep kf x fr).2).1,(lrow kf xs (lstep kf x fr).2).2)
theorem lrow_snoc(kf:Nat→Int)(x:Int):∀(xs:List Int) (fr:List Nat),lrow kf (xs++[x]) fr=((lrow kf xs fr).1++[(lstep kf x (lrow kf xs fr).2).1],(lstep kf x (lrow kf xs fr).2).2)
 | [],fr=>rfl
 | y::ys,fr=>by
  show((lstep kf y fr).1::(lrow kf (ys++[x]) _).1,(lrow kf (ys++[x]) _).2)=_
  rw[lrow_snoc kf x ys];rfl
theorem lrow_len(kf:Nat→Int):∀(xs:List Int) (fr:List Nat),(lrow kf xs fr).1.length=xs.length
 | [],_=>rfl
 | x::xs,fr=>by show((lrow kf xs _).1.length+1)=_;rw[lrow_len kf xs];rfl
def liter(N:List (List Int))(kf:Nat→Int):Nat→List Nat × List (List Int)
 | 0=>([0],[])
 | i+1=>((lrow kf (N.getD ((liter N kf i).1.getD i 0) []) (liter N kf i).1).2,(liter N kf i).2++[(lrow kf (N.getD ((liter N kf i).1.getD i 0) []) (liter N kf i).1).1])
inductive Come(N:List (List Int))(w:Nat):Nat→Prop where
 | zero:Come N w 0
 | step {s t:Nat}:Come N w s→t<w→0≤at2 N s t→Come N w (at2 N s t).toNat
structure Fr(N:List (List Int))(w:Nat)(kf:Nat→Int)(fr:List Nat):Prop where
 zero:∃r,fr=0::r
 lt:∀s,s∈fr→s<N.length
 nd:(fr.map kf).Nodup
 come:∀s,s∈fr→Come N w s
theorem Fr.first {N w kf} (h : 0 < N.length) : Fr N w kf [0] :=
  ⟨⟨[], rfl⟩, fun s hs => by have : s = 0 := by simpa using hs
                             omega, by simp, fun s hs => by have : s = 0 := by simpa using hs
                                                            subst this; exact .zero⟩
theorem Fr.len{N w kf fr}(h:Fr N w kf fr):fr.length≤N.length:=by
 have hn:fr.Nodup:=by
  have:=h.nd
  rw[List.nodup_iff_pairwise_ne,List.pairwise_map]at this
  exact this.imp fun h e=>h (by rw[e])
 have:=sub_len (m:=List.range N.length) hn (fun s hs=>by simpa using h.lt s hs)
 simpa using this
def Means(kf:Nat→Int)(x:Int)(fr:List Nat)(y:Int):Prop :=
 (x<0→y = -1)∧(0≤x→∃j:Nat,y=(j:Int)∧∃s,fr[j]? = some s∧kf s=kf x.toNat)
theorem Means.mono{kf x fr y r}(h:Means kf x fr y):Means kf x (fr++r) y :=
 ⟨h.1,fun h0=>by
  obtain⟨j,e,s,hs,hk⟩:=h.2 h0
  exact⟨j,e,s,by rw[List.getElem?_append_left (List.getElem?_eq_some_iff.1 hs).1];exact hs,hk⟩⟩
theorem lstep_spec{N w kf fr}(hf:Fr N w kf fr)(x:Int)(hx:0≤x→x.toNat<N.length∧Come N w x.toNat) :
  Fr N w kf (lstep kf x fr).2∧(∃r,(lstep kf x fr).2=fr++r)∧Means kf x (lstep kf x fr).2 (lstep kf x fr).1:=by
 unfold lstep
 split
 ·rename_i h
  exact⟨hf,⟨[],by simp⟩,fun _=>rfl,fun h0=>by omega⟩
 ·rename_i h
  split
  ·rename_i hm
   refine⟨hf,⟨[],by simp⟩,fun h1=>by omega,fun _=>⟨_,rfl,?_⟩⟩
   have hl:(fr.map kf).idxOf (kf x.toNat)<(fr.map kf).length:=List.idxOf_lt_length_of_mem hm
   have e:(fr.map kf)[(fr.map kf).idxOf (kf x.toNat)]=kf x.toNat:=List.getElem_idxOf hl
   rw[List.getElem_map]at e
   exact⟨_,List.getElem?_eq_getElem (by simpa using hl),e⟩
  ·rename_i hm
   obtain⟨h1,h2⟩:=hx (by omega)
   refine⟨⟨?_,?_,?_,?_⟩,⟨_,rfl⟩,fun h1=>by omega,fun _=>⟨_,rfl,x.toNat,by simp,rfl⟩⟩
   ·obtain⟨r,e⟩:=hf.zero
    exact⟨r++[x.toNat],by simp[e]⟩
   ·intro s hs
    rcases List.mem_append.1 hs with h|h
    ·exact hf.lt s h
    ·have:s=x.toNat:=by simpa using h
     omega
   ·rw[List.map_append,List.nodup_append]
    refine⟨hf.nd,by simp,fun a ha b hb e=>hm ?_⟩
    have:b=kf x.toNat:=by simpa using hb
    rw[←this,←e];exact ha
   ·intro s hs
    rcases List.mem_append.1 hs with h|h
    ·exact hf.come s h
    ·have:s=x.toNat:=by simpa using h
     rw[this];exact h2
theorem lrow_spec{N w kf}:∀(xs:List Int) {fr:List Nat},Fr N w kf fr→(∀x,x∈xs→0≤x→x.toNat<N.length∧Come N w x.toNat) →
  Fr N w kf (lrow kf xs fr).2∧(∃r,(lrow kf xs fr).2=fr++r)∧∀(t:Nat) (h:t<xs.length),Means kf xs[t] (lrow kf xs fr).2 (at1 (lrow kf xs fr).1 t)
 | [],fr,hf,_=>⟨hf,⟨[],by simp[lrow]⟩,fun t h=>by simp at h⟩
 | x::xs,fr,hf,hx=>by
  obtain⟨h1,⟨r,h2⟩,h3⟩:=lstep_spec hf x (hx x (List.mem_cons_self ..))
  obtain⟨g1,⟨q,g2⟩,g3⟩:=lrow_spec xs h1 (fun y hy=>hx y (List.mem_cons_of_mem _ hy))
  refine⟨g1,⟨r++q,?_⟩,fun t ht=>?_⟩
  ·show(lrow kf xs _).2=_
   rw[g2,h2,List.append_assoc]
  ·cases t with
   | zero =>
    show Means kf x (lrow kf xs _).2 (lstep kf x fr).1
    rw[g2];exact h3.mono
   | succ t=>exact g3 t (by simpa using ht)
structure Lt(N:List (List Int))(w:Nat)(kf:Nat→Int)(i:Nat)(fr:List Nat)(rows:List (List Int)):Prop where
 st:Fr N w kf fr
 len:rows.length=i
 le:i≤fr.length
 wd:∀j,j<i→(rows.getD j []).length=w
 mean:∀j,j<i→∀t,t<w→Means kf (at2 N (fr.getD j 0) t) fr (at2 rows j t)
theorem row_mem{N R w}(h:Ok N R w){s:Nat}(hs:s<N.length)(hc:Come N w s):∀x,x∈N.getD s []→0≤x→x.toNat<N.length∧Come N w x.toNat:=by
 intro x hx h0
 obtain⟨t,ht,e⟩:=List.getElem_of_mem hx
 rw[at2_row]at e
 have hw:=ht
 rw[h.row s hs]at hw
 subst e
 exact⟨h.nat hs hw h0,hc.step hw h0⟩
theorem Lt.next {N R w kf i fr rows} (h : Ok N R w) (hl : Lt N w kf i fr rows) (hi : i < fr.length) :
    Lt N w kf (i + 1) (lrow kf (N.getD (fr.getD i 0) []) fr).2 (rows ++ [(lrow kf (N.getD (fr.getD i 0) []) fr).1]) := by
  have hg : fr[i]? = some (fr.getD i 0) := by rw [List.getElem?_eq_getElem hi]; simp [List.getD, hi]
  have hm : fr.getD i 0 ∈ fr := List.mem_of_getElem? hg
  have hs := hl.st.lt _ hm
  obtain ⟨h1, ⟨r, h2⟩, h3⟩ := lrow_spec (N.getD (fr.getD i 0) []) hl.st (row_mem h hs (hl.st.come _ hm))
  have hold : ∀ j, j < fr.length → (lrow kf (N.getD (fr.getD i 0) []) fr).2.getD j 0 = fr.getD j 0 := fun j hj => by
    rw [h2]; simp [List.getD, List.getElem?_append_left hj]
  refine ⟨h1, by simp [hl.len], ?_, fun j hj => ?_, fun j hj t ht => ?_⟩
  · rw [h2, List.length_append]; omega
  · by_cases e : j = i
    · subst e
      rw [show (rows ++ [(lrow kf (N.getD (fr.getD j 0) []) fr).1]).getD j [] = (lrow kf (N.getD (fr.getD j 0) []) fr).1 by simp [List.getD, ← hl.len], lrow_len, h.row _ hs]
    · rw [show (rows ++ [(lrow kf (N.getD (fr.getD i 0) []) fr).1]).getD j [] = rows.getD j [] by
        have : j < rows.length := by rw [hl.len]; omega
        simp [List.getD, List.getElem?_append_left this]]
      exact hl.wd j (by omega)
  · rw [hold j (by have := hl.le; omega)]
    by_cases e : j = i
    · subst e
      have hr : (rows ++ [(lrow kf (N.getD (fr.getD j 0) []) fr).1]).getD j [] = (lrow kf (N.getD (fr.getD j 0) []) fr).1 := by simp [List.getD, ← hl.len]
      unfold at2
      rw [hr]
      have hw : t < (N.getD (fr.getD j 0) []).length := by rw [h.row _ hs]; exact ht
      have := h3 t hw
      rw [at2_row] at this
      exact this
    · have hr : (rows ++ [(lrow kf (N.getD (fr.getD i 0) []) fr).1]).getD j [] = rows.getD j [] := by
        have : j < rows.length := by rw [hl.len]; omega
        simp [List.getD, List.getElem?_append_left this]
      unfold at2
      rw [hr, h2]
      exact (hl.mean j (by omega) t ht).mono
theorem liter_lt{N R w kf}(h:Ok N R w):∀i,(∀j,j<i→j<(liter N kf j).1.length)→Lt N w kf i (liter N kf i).1 (liter N kf i).2
 | 0,_=>⟨.first h.pos,rfl,by simp,fun j hj=>by omega,fun j hj=>by omega⟩
 | i+1,hi=>(liter_lt h i fun j hj=>hi j (by omega)).next h (hi i (by omega))
section
variable {N:List (List Int)} {R:List Int} {w:Nat} {kf:Nat→Int} {fr:List Nat} {rows:List (List Int)}
def rls(R:List Int)(fr:List Nat):List Int:=fr.map (at1 R)
theorem rls_at{i:Nat}(h:i<fr.length):at1 (rls R fr) i=at1 R (fr.getD i 0):=by
 simp[at1,rls,List.getD,h]
theorem fr_at{i:Nat}(h:i<fr.length):fr.getD i 0∈fr∧fr[i]? = some (fr.getD i 0):=by
 have hg:fr[i]? = some (fr.getD i 0):=by rw[List.getElem?_eq_getElem h];simp[List.getD,h]
 exact⟨List.mem_of_getElem? hg,hg⟩
theorem least_ok(h:Ok N R w)(hl:Lt N w kf fr.length fr rows):Ok rows (rls R fr) w where
 pos:=by rw[hl.len];obtain⟨r,e⟩:=hl.st.zero;rw[e];simp
 len:=by rw[hl.len];simp[rls]
 wpos:=h.wpos
 row:=fun s hs=>hl.wd s (by rw[hl.len]at hs;exact hs)
 rule:=fun s hs=>by
  rw[hl.len]at hs
  rw[rls_at hs]
  exact h.rule _ (hl.st.lt _ (fr_at hs).1)
 lo:=fun s hs t ht=>by
  rw[hl.len]at hs
  have hm:=hl.mean s hs t ht
  by_cases h0:0≤at2 N (fr.getD s 0) t
  ·obtain⟨j,e,_⟩:=hm.2 h0
   omega
  ·rw[hm.1 (by omega)];omega
 hi:=fun s hs t ht=>by
  rw[hl.len]at hs ⊢
  have hm:=hl.mean s hs t ht
  by_cases h0:0≤at2 N (fr.getD s 0) t
  ·obtain⟨j,e,q,hq,_⟩:=hm.2 h0
   have:=(List.getElem?_eq_some_iff.1 hq).1
   omega
  ·rw[hm.1 (by omega)];omega
 fin:=fun s hs t ht h0=>by
  rw[hl.len]at hs
  rw[rls_at hs]
  have hm:=hl.mean s hs t ht
  refine h.fin _ (hl.st.lt _ (fr_at hs).1) t ht ?_
  by_cases h1:0≤at2 N (fr.getD s 0) t
  ·exact h1
  ·have:=hm.1 (by omega);omega
theorem least_sim(h:Ok N R w)(hk:∀s u,s<N.length→u<N.length→(kf s=kf u↔Sim N R N R w s u))(hl:Lt N w kf fr.length fr rows){i:Nat}(hi:i<fr.length) :
  Sim N R rows (rls R fr) w (fr.getD i 0) i:=by
 refine⟨fun s i=>s<N.length∧i<fr.length∧Sim N R N R w s (fr.getD i 0),⟨fun s i ⟨hs,hi,hb⟩=>?_,fun s i ⟨hs,hi,hb⟩ t ht=>?_,fun s i ⟨hs,hi,hb⟩ t ht h0=>?_⟩,hl.st.lt _ (fr_at hi).1,hi,.refl _⟩
 ·rw[rls_at hi];exact sim_bis.rule _ _ hb
 ·rw[sim_bis.sgn _ _ hb t ht]
  have hm:=hl.mean i hi t ht
  constructor
  ·intro h1;rw[hm.1 h1];omega
  ·intro h1
   by_cases h0:0≤at2 N (fr.getD i 0) t
   ·obtain⟨j,e,_⟩:=hm.2 h0;omega
   ·omega
 ·have hm:=hl.mean i hi t ht
  have h1:=sim_bis.sgn _ _ hb t ht
  obtain⟨j,e,q,hq,hkq⟩:=hm.2 (by omega)
  have hj:=(List.getElem?_eq_some_iff.1 hq).1
  have hfi:=hl.st.lt _ (fr_at hi).1
  have eq:fr.getD j 0=q:=by simp[List.getD,hq]
  rw[e,Int.toNat_natCast]
  refine⟨h.nat hs ht h0,hj,?_⟩
  rw[eq]
  have hq':q<N.length:=hl.st.lt _ (List.mem_of_getElem? hq)
  exact(sim_bis.go _ _ hb t ht h0).trans ((hk _ _ hq' (h.nat hfi ht (by omega))).1 hkq).symm
theorem come_in(h:Ok N R w)(hk:∀s u,s<N.length→u<N.length→(kf s=kf u↔Sim N R N R w s u))(hl:Lt N w kf fr.length fr rows){s:Nat}(hs:Come N w s) :
  s<N.length∧kf s∈fr.map kf:=by
 induction hs with
 | zero =>
  obtain⟨r,e⟩:=hl.st.zero
  exact⟨h.pos,by rw[e];simp⟩
 | @step s t hs ht h0 ih =>
  obtain⟨h1,h2⟩:=ih
  refine⟨h.nat h1 ht h0,?_⟩
  obtain⟨q,hq,e⟩:=List.mem_map.1 h2
  obtain⟨i,hi,e'⟩:=List.getElem_of_mem hq
  have eq:fr.getD i 0=q:=by simp[List.getD,hi,e']
  have hql:=hl.st.lt q hq
  have hb:=(hk _ _ h1 hql).1 e.symm
  have hsg:=sim_bis.sgn _ _ hb t ht
  have hm:=hl.mean i hi t ht
  rw[eq]at hm
  obtain⟨j,_,p,hp,hkp⟩:=hm.2 (by omega)
  have hpl:=hl.st.lt _ (List.mem_of_getElem? hp)
  have:=sim_bis.go _ _ hb t ht h0
  rw[(hk _ _ (h.nat h1 ht h0) (h.nat hql ht (by omega))).2 this,←hkp]
  exact List.mem_map.2 ⟨p,List.mem_of_getElem? hp,rfl⟩
theorem least_count(h:Ok N R w)(hk:∀s u,s<N.length→u<N.length→(kf s=kf u↔Sim N R N R w s u))(hl:Lt N w kf fr.length fr rows){l:List Nat}
  (hl1:∀s,s∈l→Come N w s) (hl2:(l.map kf).Nodup) (hl3:∀s,Come N w s→kf s∈l.map kf):rows.length=l.length:=by
 rw[hl.len]
 have:(fr.map kf).length=(l.map kf).length:=same_len hl.st.nd hl2 fun x=>⟨fun hx=>by
  obtain⟨s,hs,rfl⟩:=List.mem_map.1 hx
  exact hl3 s (hl.st.come s hs),fun hx=>by
  obtain⟨s,hs,rfl⟩:=List.mem_map.1 hx
  exact(come_in h hk hl (hl1 s hs)).2⟩
 simpa using this
end
end Go.AM.Mini
namespace Go.AM.Mini
structure Iso(N:List (List Int))(R:List Int)(N':List (List Int))(R':List Int)(w:Nat)(π:Nat→Nat):Prop where
 len:N'.length=N.length
 zero:π 0=0
 lt:∀s,s<N.length→π s<N.length
 rule:∀s,s<N.length→at1 R' (π s)=at1 R s
 to:∀s,s<N.length→∀t,t<w→(at2 N s t<0∧at2 N' (π s) t<0)∨(0≤at2 N s t∧at2 N' (π s) t=((π (at2 N s t).toNat:Nat):Int))
section
variable {N N':List (List Int)} {R R':List Int} {w:Nat} {π:Nat→Nat} {kf kg:Nat→Int}
structure Least(N:List (List Int))(R:List Int)(w:Nat)(M:List (List Int))(Q:List Int):Prop where
 ex:∃(kf:Nat→Int) (m:Nat),(∀s u,s<N.length→u<N.length→(kf s=kf u↔Sim N R N R w s u))∧(∀j,j<m→j<(liter N kf j).1.length)∧(liter N kf m).1.length=m∧M=(liter N kf m).2∧Q=rls R (liter N kf m).1
theorem Least.facts(h:Ok N R w){M:List (List Int)}{Q:List Int}(a:Least N R w M Q) :
  Ok M Q w∧Sim N R M Q w 0 0∧∀(kf:Nat→Int) (l:List Nat),(∀s u,s<N.length→u<N.length→(kf s=kf u↔Sim N R N R w s u))→(∀s,s∈l→Come N w s)→(l.map kf).Nodup→(∀s,Come N w s→kf s∈l.map kf)→M.length=l.length:=by
 obtain⟨kf,m,hk,hj,hm,rfl,rfl⟩:=a.ex
 have hl:=liter_lt (kf:=kf) h m hj
 rw[←hm]at hl
 rw[hm]at hl
 have hl':Lt N w kf (liter N kf m).1.length (liter N kf m).1 (liter N kf m).2:=by rw[hm];exact hl
 refine⟨least_ok h hl',?_,fun kg l hg h1 h2 h3=>?_⟩
 ·obtain⟨r,e⟩:=hl.st.zero
  have h0:0<(liter N kf m).1.length:=by rw[e];simp
  have:=least_sim h hk hl' h0
  rwa [show(liter N kf m).1.getD 0 0=0 by rw[e];rfl]at this
 ·-- both classes are the same
  have hkg:∀s u,s<N.length→u<N.length→(kf s=kf u↔kg s=kg u):=fun s u hs hu=>(hk s u hs hu).trans (hg s u hs hu).symm
  have hlt:∀s,Come N w s→s<N.length:=fun s hs=>(come_in h hk hl' hs).1
  refine least_count h hk hl' h1 ?_ fun s hs=>?_
  ·rw[List.nodup_iff_pairwise_ne,List.pairwise_map]at h2 ⊢
   refine h2.imp_of_mem fun{a b} ha hb h=>?_
   intro e
   exact h ((hkg a b (hlt a (h1 a ha)) (hlt b (h1 b hb))).1 e)
  ·obtain⟨u,hu,e⟩:=List.mem_map.1 (h3 s hs)
   exact List.mem_map.2 ⟨u,hu,(hkg u s (hlt u (h1 u hu)) (hlt s hs)).2 e⟩
end
end Go.AM.Mini
namespace Go.AM.Mini
def okT(n:Nat)(r x:Int):Bool:=decide (-1≤x) && decide (x<n) && !(decide (0≤x) && decide (0≤r))
def okR(n w:Nat)(r:Int)(l:List Int):Bool:=decide (l.length=w) && decide (-1≤r) && l.all (okT n r)
def rightB(N:List (List Int))(R:List Int):Bool :=
 decide (N.length≠0) && decide (N.length=R.length) && decide ((N.getD 0 []).length≠0) && (List.range N.length).all fun s=>okR N.length (N.getD 0 []).length (at1 R s) (N.getD s [])
theorem getD_at{α:Type}{l:List α}{i:Nat}(d:α)(h:i<l.length):l.getD i d=l[i]:=by simp[List.getD,h]
theorem at1_at{R:List Int}{s:Nat}(h:s<R.length):at1 R s=R[s]:=getD_at _ h
theorem at2_at{N:List (List Int)}{s t:Nat}(h:s<N.length)(ht:t<N[s].length):at2 N s t=N[s][t]:=by
 unfold at2;rw[getD_at _ h,at1_at ht]
theorem rightB_iff(N:List (List Int))(R:List Int):rightB N R=true↔Ok N R (N.getD 0 []).length:=by
 unfold rightB
 simp only[Bool.and_eq_true,decide_eq_true_eq,List.all_eq_true,List.mem_range]
 constructor
 ·rintro⟨⟨⟨h1,h2⟩,h3⟩,h4⟩
  have key:∀s,s<N.length→(N.getD s []).length=(N.getD 0 []).length ∧ -1≤at1 R s∧∀t,t<(N.getD 0 []).length → -1≤at2 N s t∧at2 N s t<N.length∧(0≤at2 N s t→at1 R s<0):=by
   intro s hs
   have:=h4 s hs
   unfold okR at this
   simp only[Bool.and_eq_true,decide_eq_true_eq,List.all_eq_true]at this
   obtain⟨⟨a,b⟩,c⟩:=this
   refine⟨a,b,fun t ht=>?_⟩
   have ht':t<(N.getD s []).length:=by rw[a];exact ht
   have:=c _ (List.getElem_mem ht')
   rw[at2_row]at this
   unfold okT at this
   simp only[Bool.and_eq_true,decide_eq_true_eq,Bool.not_eq_true',Bool.and_eq_false_iff,decide_eq_false_iff_not]at this
   refine⟨this.1.1,this.1.2,fun h0=>?_⟩
   rcases this.2 with h|h <;> omega
  exact⟨by omega,h2,by omega,fun s hs=>(key s hs).1,fun s hs=>(key s hs).2.1,fun s hs t ht=>((key s hs).2.2 t ht).1,fun s hs t ht=>((key s hs).2.2 t ht).2.1,fun s hs t ht=>((key s hs).2.2 t ht).2.2⟩
 ·intro h
  refine⟨⟨⟨by have:=h.pos;omega,h.len⟩,by have:=h.wpos;omega⟩,fun s hs=>?_⟩
  unfold okR
  simp only[Bool.and_eq_true,decide_eq_true_eq,List.all_eq_true]
  refine⟨⟨h.row s hs,h.rule s hs⟩,fun x hx=>?_⟩
  obtain⟨t,ht,rfl⟩:=List.getElem_of_mem hx
  rw[at2_row]
  have ht':=ht
  rw[h.row s hs]at ht'
  unfold okT
  simp only[Bool.and_eq_true,decide_eq_true_eq,Bool.not_eq_true',Bool.and_eq_false_iff,decide_eq_false_iff_not]
  refine⟨⟨h.lo s hs t ht',h.hi s hs t ht'⟩,?_⟩
  by_cases h0:0≤at2 N s t
  ·right;have:=h.fin s hs t ht' h0;omega
  ·left;exact h0
theorem right_no{N:List (List Int)}{R:List Int}{s:Nat}(hs:s<N.length)(h:okR N.length (N.getD 0 []).length (at1 R s) (N.getD s [])=false):rightB N R=false:=by
 rw[Bool.eq_false_iff];intro e
 unfold rightB at e
 simp only[Bool.and_eq_true,List.all_eq_true,List.mem_range]at e
 rw[e.2 s hs]at h;cases h
theorem okR_no{n w:Nat}{r:Int}{l:List Int}{t:Nat}(ht:t<l.length)(h:okT n r l[t]=false):okR n w r l=false:=by
 rw[Bool.eq_false_iff];intro e
 unfold okR at e
 simp only[Bool.and_eq_true,List.all_eq_true]at e
 rw[e.2 _ (List.getElem_mem ht)]at h;cases h
end Go.AM.Mini
namespace Go.AM
open Go.RowKit
section
variable {κ:Type} [DecidableEq κ]
def gE(enc:κ→Value):List κ→Nat→List MapEntry
 | [],_=>[]
 | k::ks,j=>⟨enc k,.int .i64 (j:Int),j⟩::gE enc ks (j+1)
theorem gE_len(enc:κ→Value):∀(ks:List κ) (j:Nat),(gE enc ks j).length=ks.length
 | [],_=>rfl
 | _::ks,j=>by simp[gE,gE_len enc ks]
theorem gE_snoc(enc:κ→Value)(k:κ):∀(ks:List κ) (j:Nat),gE enc (ks++[k]) j=gE enc ks j++[⟨enc k,.int .i64 ((j+ks.length:Nat):Int),j+ks.length⟩]
 | [],j=>rfl
 | a::ks,j=>by
  show _::gE enc (ks++[k]) (j+1)=_
  rw[gE_snoc enc k ks]
  simp[gE,Nat.add_assoc,Nat.add_comm 1]
theorem gE_at(enc:κ→Value):∀(ks:List κ) (j i:Nat),(gE enc ks j)[i]? = ks[i]?.map fun k=>⟨enc k,.int .i64 ((j+i:Nat):Int),j+i⟩
 | [],_,_=>rfl
 | a::ks,j,0=>rfl
 | a::ks,j,i+1=>by
  show(gE enc ks (j+1))[i]? = _
  rw[gE_at enc ks]
  simp[Nat.add_assoc,Nat.add_comm 1]
structure GK(P:Program)(kt:TypeId)(enc:κ→Value)(good:κ→Prop):Prop where
 wide:wideK P kt=true
 ok:∀k,good k→flat (enc k)=true∧(keyOf P kt (enc k)).isSome=true
 inj:∀a b,good a→good b→enc a=enc b→a=b
variable {P:Program} {kt:TypeId} {enc:κ→Value} {good:κ→Prop}
theorem GK.veq(h:GK P kt enc good){a b:κ}(ha:good a)(hb:good b):veq (enc a) (enc b)=decide (a=b):=by
 by_cases e:a=b
 ·subst e
  rw[decide_eq_true rfl]
  exact veq_self h.wide (h.ok a ha).2
 ·rw[decide_eq_false e]
  cases hv:Go.AM.veq (enc a) (enc b)with
  | false=>rfl
  | true=>exact absurd (h.inj a b ha hb (veq_eq hv)) e
theorem GK.idx(h:GK P kt enc good){k:κ}(hk:good k):∀(ks:List κ) (j:Nat),(∀a,a∈ks→good a)→((gE enc ks j).findIdx? fun e=>Go.AM.veq e.key (enc k))=if k∈ks then some (ks.idxOf k) else none
 | [],_,_=>rfl
 | a::ks,j,hg=>by
  show(List.findIdx? _ (_::gE enc ks (j+1)))=_
  rw[List.findIdx?_cons]
  show(if Go.AM.veq (enc a) (enc k)=true then some 0 else Option.map (fun i=>i+1) (List.findIdx? _ (gE enc ks (j+1))))=_
  rw[h.veq (hg a (List.mem_cons_self ..)) hk,h.idx hk ks (j+1) fun b hb=>hg b (List.mem_cons_of_mem _ hb)]
  by_cases e:a=k
  ·subst e;simp
  ·have e':¬k=a:=fun x=>e x.symm
   have:(a == k)=false:=by simpa using e
   simp only[decide_eq_false e,List.mem_cons,e',false_or,List.idxOf_cons,this,cond_false]
   by_cases hm:k∈ks <;> simp[hm]
theorem GK.find(h:GK P kt enc good){k:κ}(hk:good k){ks:List κ}(hg:∀a,a∈ks→good a):afind P kt (enc k) (gE enc ks 0)=some (if k∈ks then some (ks.idxOf k) else none):=by
 unfold afind
 rw[if_pos ⟨h.wide,(h.ok k hk).1,(h.ok k hk).2⟩,h.idx hk ks 0 hg]
theorem GK.look_yes(h:GK P kt enc good){k:κ}(hk:good k){ks:List κ}(hg:∀a,a∈ks→good a)(hm:k∈ks){H:Heap}{y c:Nat}{t et:TypeId}(ht:P.underlying t=some (.map kt et))(hy:H y=.map (gE enc ks 0) c kt)(ok:Bool) :
  alookup P t H (.map (some y)) (enc k) ok=some { v:=if ok then .tuple #[.int .i64 ((ks.idxOf k:Nat):Int),.bool true] else .int .i64 ((ks.idxOf k:Nat):Int),rd:=[y] }:=by
 have hl:ks.idxOf k<ks.length:=List.idxOf_lt_length_of_mem hm
 unfold alookup
 simp only[ht,hy,if_true,h.find hk hg,hm,gE_at,List.getElem?_eq_getElem hl,Option.map_some,Nat.zero_add]
theorem GK.look_no(h:GK P kt enc good){k:κ}(hk:good k){ks:List κ}(hg:∀a,a∈ks→good a)(hm:k∉ks){H:Heap}{y c:Nat}{t et:TypeId}(ht:P.underlying t=some (.map kt et))(hz:(P.info? et).bind (·.zero)=some (.int .i64 0))(hy:H y=.map (gE enc ks 0) c kt)(ok:Bool) :
  alookup P t H (.map (some y)) (enc k) ok=some { v:=if ok then .tuple #[.int .i64 0,.bool false] else .int .i64 0,rd:=[y] }:=by
 unfold alookup
 simp only[ht,hy,if_true,h.find hk hg,hm,if_false,hz]
 rfl
theorem GK.put(h:GK P kt enc good){k:κ}(hk:good k){ks:List κ}(hg:∀a,a∈ks→good a)(hm:k∉ks){H:Heap}{y:Nat}{t et:TypeId}(ht:P.underlying t=some (.map kt et))(hy:H y=.map (gE enc ks 0) ks.length kt) :
  amapset P t H (.map (some y)) (enc k) (.int .i64 (ks.length:Int))=some { v:=undef,wr:=some (y,.map (gE enc (ks++[k]) 0) (ks++[k]).length kt) }:=by
 unfold amapset
 simp only[ht,hy,if_true,h.find hk hg,hm,if_false,gE_snoc,Nat.zero_add,List.length_append,List.length_singleton]
end
theorem rep_ints(k:Nat):rep k [Value.int .i64 0]=(List.replicate k (0:Int)).map (Value.int .i64):=by
 induction k with
 | zero=>rfl
 | succ k ih=>rw[List.replicate_succ,List.map_cons,←ih];rfl
def encS(l:List Int):Value:=.string (BA (dL l))
def goodS(l:List Int):Prop:=l≠[]∧(dL l).length≤1000000
theorem gkS{P:Program}{kt:TypeId}(h:P.underlying kt=some .string):GK P kt encS goodS where
 wide:=by unfold wideK baseK;rw[h];simp
 ok:=fun k hk=>⟨rfl,by
  have:(BA (dL k)).size≤maxLen:=by rw[ba_size];have:=hk.2;unfold maxLen;omega
  simp[encS,keyOf,h,mapKey,this]⟩
 inj:=fun a b ha hb e=>by
  have:BA (dL a)=BA (dL b):=Value.string.inj e
  exact dL_inj ha.1 hb.1 (ba_inj this)
theorem gkI{P:Program}{kt:TypeId}(h:P.underlying kt=some (.int .i64)):GK P kt (Value.int .i64) inI where
 wide:=by unfold wideK baseK;rw[h];simp
 ok:=fun k hk=>⟨rfl,by
  have:(Lit.int .i64 k).wf=true:=by
   unfold inI at hk
   simp[Lit.wf,IntKind.min,IntKind.max,IntKind.signed,IntKind.bits];omega
  simp[keyOf,h,mapKey,this]⟩
 inj:=fun a b _ _ e=>by cases e;rfl
end Go.AM
namespace Go.AM
open Go.RowKit
theorem keyOf_arr2{P:Program}{kt ti:TypeId}(hu:P.underlying kt=some (.array 2 ti))(hk:P.keyType kt=true)(hs:0<P.types.size)(hti:P.underlying ti=some (.int .i64))(hc:P.cellsOf ti=1)(h2:P.cellsOf kt=2)
  {a b:Int} (ha:(Lit.int .i64 a).wf=true) (hb:(Lit.int .i64 b).wf=true):(keyOf P kt (.agg #[.int .i64 a,.int .i64 b])).isSome=true:=by
 have hint:∀n:Int,(Lit.int .i64 n).wf=true→P.keyLits P.types.size ti [.int .i64 n]=some [.int .i64 n]:=by
  intro n hw
  obtain⟨d,hd⟩:∃d,P.types.size=d+1:=⟨P.types.size - 1,by omega⟩
  rw[hd]
  unfold Program.keyLits
  simp only[hti]
  rw[if_pos ⟨trivial,hw⟩]
 unfold keyOf
 rw[hu]
 simp only
 have hfm:Value.formed P kt (.agg #[.int .i64 a,.int .i64 b])=true:=by
  unfold Value.formed
  simp[hu,h2]
 rw[hk,hfm]
 have hl:P.keyLits (P.types.size+1) kt [.int .i64 a,.int .i64 b]=some [.int .i64 a,.int .i64 b]:=by
  unfold Program.keyLits
  simp only[hu]
  rw[if_pos (by rw[h2];rfl)]
  have hr:List.range 2=[0,1]:=rfl
  rw[hr]
  simp[hc,hint _ ha,hint _ hb]
 show(Option.map _ (P.keyLits (P.types.size+1) kt [.int .i64 a,.int .i64 b])).isSome=true
 rw[hl]
 rfl
section
variable {κ:Type} [DecidableEq κ]
def tE(enc:κ→Value):List κ→Nat→List MapEntry
 | [],_=>[]
 | k::ks,j=>⟨enc k,.bool true,j⟩::tE enc ks (j+1)
theorem tE_snoc(enc:κ→Value)(k:κ):∀(ks:List κ) (j:Nat),tE enc (ks++[k]) j=tE enc ks j++[⟨enc k,.bool true,j+ks.length⟩]
 | [],j=>rfl
 | a::ks,j=>by
  show _::tE enc (ks++[k]) (j+1)=_
  rw[tE_snoc enc k ks]
  simp[tE,Nat.add_assoc,Nat.add_comm 1]
theorem tE_at(enc:κ→Value):∀(ks:List κ) (j i:Nat),(tE enc ks j)[i]? = ks[i]?.map fun k=>⟨enc k,.bool true,j+i⟩
 | [],_,_=>rfl
 | a::ks,j,0=>rfl
 | a::ks,j,i+1=>by
  show(tE enc ks (j+1))[i]? = _
  rw[tE_at enc ks]
  simp[Nat.add_assoc,Nat.add_comm 1]
variable {P:Program} {kt:TypeId} {enc:κ→Value} {good:κ→Prop}
theorem GK.tidx(h:GK P kt enc good){k:κ}(hk:good k):∀(ks:List κ) (j:Nat),(∀a,a∈ks→good a)→((tE enc ks j).findIdx? fun e=>Go.AM.veq e.key (enc k))=if k∈ks then some (ks.idxOf k) else none
 | [],_,_=>rfl
 | a::ks,j,hg=>by
  show(List.findIdx? _ (_::tE enc ks (j+1)))=_
  rw[List.findIdx?_cons]
  show(if Go.AM.veq (enc a) (enc k)=true then some 0 else Option.map (fun i=>i+1) (List.findIdx? _ (tE enc ks (j+1))))=_
  rw[h.veq (hg a (List.mem_cons_self ..)) hk,h.tidx hk ks (j+1) fun b hb=>hg b (List.mem_cons_of_mem _ hb)]
  by_cases e:a=k
  ·subst e;simp
  ·have e':¬k=a:=fun x=>e x.symm
   have:(a == k)=false:=by simpa using e
   simp only[decide_eq_false e,List.mem_cons,e',false_or,List.idxOf_cons,this,cond_false]
   by_cases hm:k∈ks <;> simp[hm]
theorem GK.tfind(h:GK P kt enc good){k:κ}(hk:good k){ks:List κ}(hg:∀a,a∈ks→good a):afind P kt (enc k) (tE enc ks 0)=some (if k∈ks then some (ks.idxOf k) else none):=by
 unfold afind
 rw[if_pos ⟨h.wide,(h.ok k hk).1,(h.ok k hk).2⟩,h.tidx hk ks 0 hg]
theorem GK.has(h:GK P kt enc good){k:κ}(hk:good k){ks:List κ}(hg:∀a,a∈ks→good a){H:Heap}{y c:Nat}{t et:TypeId}(ht:P.underlying t=some (.map kt et))(hz:(P.info? et).bind (·.zero)=some (.bool false))(hy:H y=.map (tE enc ks 0) c kt) :
  alookup P t H (.map (some y)) (enc k) false=some { v:=.bool (decide (k∈ks)),rd:=[y] }:=by
 unfold alookup
 simp only[ht,hy,if_true,h.tfind hk hg]
 by_cases hm:k∈ks
 ·have hl:ks.idxOf k<ks.length:=List.idxOf_lt_length_of_mem hm
  simp only[hm,if_true,tE_at,List.getElem?_eq_getElem hl,Option.map_some,decide_true]
  rfl
 ·simp only[hm,if_false,hz,decide_false]
  rfl
theorem GK.tput(h:GK P kt enc good){k:κ}(hk:good k){ks:List κ}(hg:∀a,a∈ks→good a)(hm:k∉ks){H:Heap}{y:Nat}{t et:TypeId}(ht:P.underlying t=some (.map kt et))(hy:H y=.map (tE enc ks 0) ks.length kt) :
  amapset P t H (.map (some y)) (enc k) (.bool true)=some { v:=undef,wr:=some (y,.map (tE enc (ks++[k]) 0) (ks++[k]).length kt) }:=by
 unfold amapset
 simp only[ht,hy,if_true,h.tfind hk hg,hm,if_false,tE_snoc,Nat.zero_add,List.length_append,List.length_singleton]
end
def prC(x:Nat × Nat):List Value:=[.int .i64 (x.1:Int),.int .i64 (x.2:Int)]
def prV(x:Nat × Nat):Value:=.agg (prC x).toArray
def goodP(x:Nat × Nat):Prop:=x.1≤1000000∧x.2≤1000000
theorem gkP{P:Program}{kt ti:TypeId}(hw:wideK P kt=true)(hu:P.underlying kt=some (.array 2 ti))(hk:P.keyType kt=true)(hs:0<P.types.size)(hti:P.underlying ti=some (.int .i64))(hc:P.cellsOf ti=1)(h2:P.cellsOf kt=2):GK P kt prV goodP where
 wide:=hw
 ok:=fun k hk'=>⟨rfl,by
  have hwf:∀n:Nat,n≤1000000→(Lit.int .i64 (n:Int)).wf=true:=fun n hn=>by simp[Lit.wf,IntKind.min,IntKind.max,IntKind.signed,IntKind.bits];omega
  exact keyOf_arr2 hu hk hs hti hc h2 (hwf _ hk'.1) (hwf _ hk'.2)⟩
 inj:=fun a b _ _ e=>by
  unfold prV prC at e
  simp at e
  have h1:=e.1
  have h2:=e.2
  exact Prod.ext (by omega) (by omega)
end Go.AM
namespace Go.AM
open Go.RowKit
theorem aop_insert{P:Program}{n:Nat}{H:Heap}{ρ:Operand→Value}{d:Option Nat}{t:TypeId}{m k x:Operand}{ty:TypeId}{p:String}{af:Array Edge}{gd:Option (Nat × Bool)} :
  aop P ρ n H ⟨d,.insert t m k x,ty,p,af,gd⟩=amapset P t H (ρ m) (ρ k) (ρ x):=rfl
section
variable {κ:Type} [DecidableEq κ]
variable {P:Program} {kt:TypeId} {enc:κ→Value} {val:κ→Value} {good:κ→Prop}
theorem idx_at{ks:List κ}{k:κ}(hm:k∈ks):ks[ks.idxOf k]? = some k:=by
 have hl:ks.idxOf k<ks.length:=List.idxOf_lt_length_of_mem hm
 rw[List.getElem?_eq_getElem hl,List.getElem_idxOf hl]
end
end Go.AM
namespace Go.AM.Fo
variable {g:Gram}
inductive Dv(g:Gram):List Int→List Int→List Int→Prop
 | nil:Dv g [] [] []
 | term {s:Int} {l d w:List Int} (h:s<0) (k:Dv g l d w):Dv g (s::l) d ((-s - 1)::w)
 | var {i:Nat} {l d1 d2 w1 w2:List Int} (h:i<g.rules.length) (x:Dv g (rgt g i) d1 w1) (k:Dv g l d2 w2):Dv g (lft g i::l) ((i:Int)::(d1++d2)) (w1++w2)
theorem Dv.one{i:Nat}{d w:List Int}(h:i<g.rules.length)(x:Dv g (rgt g i) d w):Dv g [lft g i] ((i:Int)::d) w:=by
 have:=Dv.var h x .nil
 simpa using this
theorem Dv.append{a b d e u v:List Int}(h:Dv g a d u)(k:Dv g b e v):Dv g (a++b) (d++e) (u++v):=by
 induction h with
 | nil=>exact k
 | term h _ ih=>exact .term h ih
 | @var i l d1 d2 w1 w2 h x _ _ ih =>
  rw[List.cons_append,List.append_assoc,List.cons_append,List.append_assoc]
  exact .var h x ih
theorem Dv.nil_inv{d w:List Int}(h:Dv g [] d w):d=[]∧w=[]:=by
 generalize hl:([]:List Int)=L at h
 cases h with
 | nil=>exact⟨rfl,rfl⟩
 | term=>cases hl
 | var=>cases hl
theorem Dv.split{l d w:List Int}(h:Dv g l d w):∀{a b:List Int},l=a++b→∃d1 d2 w1 w2,d=d1++d2∧w=w1++w2∧Dv g a d1 w1∧Dv g b d2 w2:=by
 induction h with
 | nil=>intro a b e;obtain⟨rfl,rfl⟩:=List.append_eq_nil_iff.1 e.symm;exact⟨[],[],[],[],rfl,rfl,.nil,.nil⟩
 | @term s l d w h k ih =>
  intro a b e
  cases a with
  | nil=>simp at e;subst e;exact⟨[],d,[],_,rfl,rfl,.nil,.term h k⟩
  | cons x a =>
   simp at e
   obtain⟨rfl,e⟩:=e
   obtain⟨d1,d2,w1,w2,rfl,rfl,h1,h2⟩:=ih e
   exact⟨d1,d2,_,w2,rfl,rfl,.term h h1,h2⟩
 | @var i l d1 d2 w1 w2 h x k _ ih =>
  intro a b e
  cases a with
  | nil=>simp at e;subst e;exact⟨[],_,[],_,rfl,rfl,.nil,.var h x k⟩
  | cons y a =>
   simp at e
   obtain⟨rfl,e⟩:=e
   obtain⟨e1,e2,u1,u2,rfl,rfl,h1,h2⟩:=ih e
   exact⟨_,e2,_,u2,by simp,by simp,.var h x h1,h2⟩
abbrev Nd:=Int × Nat × Nat
abbrev Way:=Nat × List Nat
def sub(w:List Int)(a b:Nat):List Int:=(w.drop a).take (b - a)
theorem sub_len{w:List Int}{a b:Nat}(h1:a≤b)(h2:b≤w.length):(sub w a b).length=b - a:=by unfold sub;simp;omega
def fit(w:List Int)(rd:Nd→Nat)(ah:Nat)(s:Int)(a b:Nat):Bool :=
 if 0≤s then decide (0<rd (s,a,b)) && (decide (ah=0) || decide (rd (s,a,b)<ah)) else decide (b=a+1) && decide (w.getD a 0 = -s - 1)
def enum(w:List Int)(rd:Nd→Nat)(ah:Nat):List Int→Nat→Nat→List (List Nat)
 | [],a,b=>if a=b then [[]] else []
 | s::ss,a,b=>(List.range' a (b+1 - a)).flatMap fun c=>if fit w rd ah s a c=true then(enum w rd ah ss c b).map (c :: ·) else []
def ofv(g:Gram)(v:Int):List Nat:=(List.range g.rules.length).filter fun r=>decide (lft g r=v)
def waysL(g:Gram)(w:List Int)(rd:Nd→Nat)(ah:Nat)(x:Nd):List Way:=(ofv g x.1).flatMap fun r=>(enum w rd ah (rgt g r) x.2.1 x.2.2).map fun cs=>(r,cs)
structure FoOK(g:Gram)(w:List Int)(rd:Nd→Nat):Prop where
 val:∀x,rd x≠0→0≤x.1∧x.2.1≤x.2.2∧x.2.2≤w.length
 sound:∀x,rd x≠0→∃y,y∈waysL g w rd (rd x) x
 compl:∀x y,x.2.1≤x.2.2→x.2.2≤w.length→y∈waysL g w rd 0 x→rd x≠0
inductive DvL(g:Gram)(w:List Int):List Int→Nat→List Nat→List Int→Prop
 | nil (a:Nat):DvL g w [] a [] []
 | term {s:Int} {ss:List Int} {a c:Nat} {cs:List Nat} {d:List Int} (h:s<0) (k:DvL g w ss c cs d):DvL g w (s::ss) a (c::cs) d
 | var {s:Int} {ss:List Int} {a c:Nat} {cs:List Nat} {d1 d2:List Int} (h:0≤s) (x:Dv g [s] d1 (sub w a c)) (k:DvL g w ss c cs d2):DvL g w (s::ss) a (c::cs) (d1++d2)
end Go.AM.Fo
namespace Go.AM
def rk(p:Nat→Bool):Nat→Nat
 | 0=>0
 | v+1=>rk p v+if p v then 1 else 0
def pk{α:Type}(p:Nat→Bool):Nat→List α→List α
 | _,[]=>[]
 | i,a::l=>if p i then a::pk p (i+1) l else pk p (i+1) l
theorem rk_mono {p : Nat → Bool} {a b : Nat} (h : a ≤ b) : rk p a ≤ rk p b := by
  induction b with
  | zero => obtain rfl : a = 0 := by omega
            exact Nat.le_refl _
  | succ b ih =>
    by_cases e : a = b + 1
    · subst e; exact Nat.le_refl _
    · have := ih (by omega); simp only [rk]; omega
theorem rk_lt{p:Nat→Bool}{a b:Nat}(h:a<b)(ha:p a=true):rk p a<rk p b:=by
 have:=rk_mono (p:=p) (show a+1≤b from h)
 simp only[rk,ha,if_true]at this
 omega
theorem rk_inj{p:Nat→Bool}{a b:Nat}(ha:p a=true)(hb:p b=true)(h:rk p a=rk p b):a=b:=by
 rcases Nat.lt_trichotomy a b with k|k|k
 ·have:=rk_lt k ha;omega
 ·exact k
 ·have:=rk_lt k hb;omega
end Go.AM
namespace Go.AM
structure GoodG(NB QB:ByteArray→Prop)(LT:ByteArray→ByteArray→Prop)(W:Nat→Prop)(g:Gram):Prop where
 vars1:1≤g.vars.length
 vars:g.vars.length≤64
 terms:g.terms.length≤64
 rules:g.rules.length≤256
 inG:InG g
 len:∀r∈g.rules,r.right.length≤24
 told:∀r∈g.rules,W r.weight
 up:g.rules.Pairwise fun a b=>a.left≤b.left
 unlike:g.rules.Pairwise fun a b=>a.left=b.left→a.right≠b.right
 has:∀v:Nat,v<g.vars.length→∃r∈g.rules,r.left=v
 used:∀t:Nat,t<g.terms.length→∃r∈g.rules,-(t:Int) - 1∈r.right
 names:∀s∈g.vars,NB s
 uniq:g.vars.Pairwise fun a b=>a.toList≠b.toList
 quotes:∀s∈g.terms,QB s
 rise:g.terms.Pairwise LT
def mapS(u st:Nat→Bool)(s:Int):Int:=if 0≤s then(rk u s.toNat:Int) else -(rk st (-s - 1).toNat:Int) - 1
def mapR(u st:Nat→Bool)(r:GRule):GRule:=⟨rk u r.left.toNat,r.right.map (mapS u st),r.weight⟩
def redG(g:Gram)(u st:Nat→Bool)(kp:GRule→Bool):Gram:=⟨pk st 0 g.terms,pk u 0 g.vars,(g.rules.filter kp).map (mapR u st)⟩
structure Keeps(g:Gram)(u st:Nat→Bool)(kp:GRule→Bool):Prop where
 inG:InG g
 var:∀v:Nat,v<g.vars.length→(u v=true↔Usd g v)
 rule:∀r∈g.rules,(kp r=true↔Usd g r.left∧∀s∈r.right,0≤s→Prd g s)
 term:∀t:Nat,t<g.terms.length→(st t=true↔∃r∈g.rules,kp r=true ∧ -(t:Int) - 1∈r.right)
theorem Usd.prd{g:Gram}{v:Int}(h:Usd g v):Prd g v:=by
 cases h with
 | base h=>exact h
 | step i h hu hp hs h0=>exact hp _ hs h0
theorem Usd.of{g:Gram}{r:GRule}(hr:r∈g.rules)(hu:Usd g r.left)(hp:∀s∈r.right,0≤s→Prd g s){s:Int}(hs:s∈r.right)(h0:0≤s):Usd g s:=by
 obtain⟨i,hi,rfl⟩:=List.getElem_of_mem hr
 exact .step i hi hu hp hs h0
theorem Prd.of{g:Gram}{r:GRule}(hr:r∈g.rules)(hp:∀s∈r.right,0≤s→Prd g s):Prd g r.left:=by
 obtain⟨i,hi,rfl⟩:=List.getElem_of_mem hr
 exact .mk i hi hp
namespace Keeps
variable {g:Gram} {u st:Nat→Bool} {kp:GRule→Bool} (K:Keeps g u st kp)
include K
theorem left{r:GRule}(hr:r∈g.rules)(hk:kp r=true):u r.left.toNat=true:=by
 have h0:=K.inG.left0 r hr
 have h1:=K.inG.left1 r hr
 refine(K.var r.left.toNat (by omega)).2 ?_
 rw[show((r.left.toNat:Nat):Int)=r.left by omega]
 exact((K.rule r hr).1 hk).1
theorem symV{r:GRule}(hr:r∈g.rules)(hk:kp r=true){s:Int}(hs:s∈r.right)(h0:0≤s):u s.toNat=true:=by
 have h1:=K.inG.right r hr s hs
 refine(K.var s.toNat (by omega)).2 ?_
 rw[show((s.toNat:Nat):Int)=s by omega]
 exact Usd.of hr ((K.rule r hr).1 hk).1 ((K.rule r hr).1 hk).2 hs h0
theorem symT{r:GRule}(hr:r∈g.rules)(hk:kp r=true){s:Int}(hs:s∈r.right)(h0:s<0):st (-s - 1).toNat=true:=by
 have h1:=K.inG.rightT r hr s hs h0
 refine(K.term (-s - 1).toNat (by omega)).2 ⟨r,hr,hk,?_⟩
 rwa [show -(((-s - 1).toNat:Nat):Int) - 1=s by omega]
theorem mem{r:GRule}(hr:r∈g.rules)(hk:kp r=true):mapR u st r∈(redG g u st kp).rules :=
 List.mem_map.2 ⟨r,List.mem_filter.2 ⟨hr,hk⟩,rfl⟩
theorem prd{v:Int}(h:Prd g v):Usd g v→Prd (redG g u st kp) (rk u v.toNat):=by
 induction h with
 | mk i hi h1 ih =>
  intro hu
  have hk:=(K.rule _ (List.getElem_mem hi)).2 ⟨hu,h1⟩
  refine Prd.of (r:=mapR u st g.rules[i]) (K.mem (List.getElem_mem hi) hk) fun s hs h0=>?_
  obtain⟨x,hx,rfl⟩:=List.mem_map.1 hs
  by_cases hx0:0≤x
  ·have:=ih x hx hx0 (Usd.of (List.getElem_mem hi) hu h1 hx hx0)
   simpa only[mapS,if_pos hx0] using this
  ·simp only[mapS,if_neg hx0]at h0
   omega
theorem inj{r q:GRule}(hr:r∈g.rules)(hk:kp r=true)(hq:q∈g.rules)(hkq:kp q=true){s t:Int}(hs:s∈r.right)(ht:t∈q.right)(h:mapS u st s=mapS u st t):s=t:=by
 unfold mapS at h
 by_cases s0:0≤s <;> by_cases t0:0≤t
 ·rw[if_pos s0,if_pos t0]at h
  have:=rk_inj (p:=u) (K.symV hr hk hs s0) (K.symV hq hkq ht t0) (by omega)
  omega
 ·rw[if_pos s0,if_neg t0]at h;omega
 ·rw[if_neg s0,if_pos t0]at h;omega
 ·rw[if_neg s0,if_neg t0]at h
  have:=rk_inj (p:=st) (K.symT hr hk hs (by omega)) (K.symT hq hkq ht (by omega)) (by omega)
  omega
end Keeps
end Go.AM
namespace Go.AM
open Go.RowKit
section
variable {P:Program} {w:World}
theorem run_copy_row'{dT sT ty elem:TypeId}{i:TypeInfo}{b o dLen dCap sLen sCap m:Nat}{a:Addr}{cur:Array Value}{ety:TypeId}{ys:List Value}
  (hu:P.underlying dT=some (.slice elem)) (hi:P.info? elem=some i) (hm:Nat.min sLen dLen=m) (hsrc:(Builtin.firstCells i.size m (.slice (some a) sLen sCap)).run P w=.ok ys.toArray w)
  (hcur:w.heap[b]? = some (.cells cur ety (0,0))) (hfit:o+ys.length≤cur.size) (h1c:∀v∈ys,v.oneCell'=true) :
  (Builtin.copy_ #[dT,sT] ty #[.slice (some ⟨b,o,none⟩) dLen dCap,.slice (some a) sLen sCap]).run P w=.ok (goInt m) (w.setRow b (cur.toList.take o++ys++cur.toList.drop (o+ys.length)).toArray):=by
 have hst:=run_storeCells_at (P:=P) b o ety ys 0 cur w hcur (by simpa using hfit) h1c
 simp only[Nat.add_zero]at hst
 simp[Builtin.copy_,run_underlying hu,Builtin.lenOf,sizeOf,typeInfo,hi,hm,hsrc,hst]
theorem run_append_make{ts:Array TypeId}{t u ty e:TypeId}{i:TypeInfo}{z:Value}{k:IntKind}{m sLen sCap:Nat}{base':Option Addr}{olds:List Value}
  (h0:ts[0]? = some t) (h1:ts[1]? = some u) (ht:P.underlying t=some (.slice e)) (hu:P.underlying u=some (.int k))
  (hi:P.info? e=some i) (hz:i.zero=some z) (hm:0<m) (hs:0<i.size)
  (hold:(Builtin.firstCells i.size sLen (.slice base' sLen sCap)).run P w.drew=.ok olds.toArray w.drew)
  (hg:sCap<sLen+m) (hb:sLen+m≤bigN) (hby:i.bytes≤4096) :
  (Builtin.append_ ts ty #[.slice base' sLen sCap,.int .i64 m]).run P w =
   .ok (.slice (some ⟨w.heap.size,0,none⟩) (sLen+m) (grownCap w (sLen+m) sCap e))
    (w.drew.alloc (.cells (olds.toArray++Builtin.zeroCells z.cells m++Builtin.zeroCells z.cells (grownCap w (sLen+m) sCap e - (sLen+m))) e)):=by
 have hn:¬(sLen+m≤sCap):=by omega
 have hb':sLen+m≤34359738368:=hb
 have h63':¬(9223372036854775807<((sLen:Int)+(m:Int))):=by omega
 have hmul:(sLen+m)*i.bytes≤34359738368*4096:=Nat.mul_le_mul hb' hby
 have hmul2:m*i.bytes≤34359738368*4096:=Nat.mul_le_mul (by omega) hby
 have hfit:=growslice_fits (need:=sLen+m) (old:=sCap) (bytes:=i.bytes) (by omega) (by omega)
 have h48':¬(281474976710656<Builtin.nextslicecap (sLen+m) sCap*i.bytes):=by omega
 have hw:IntKind.i64.wrap (m:Int)=m:=by rw[IntKind.wrap_i64];omega
 have hneg:¬((m:Int)<0):=by omega
 have h48m:¬((m:Int)*(i.bytes:Int)>281474976710656):=by
  have:((m*i.bytes:Nat):Int)≤281474976710656:=by omega
  rw[Int.natCast_mul]at this;omega
 have hms:¬(m=0∨i.size=0):=by omega
 have hm0:¬(m=0):=by omega
 have hs0:¬(i.size=0):=by omega
 simp[Builtin.append_,h0,h1,run_underlying ht,run_underlying hu,sizeOf,typeInfo,zeroValue,hi,hz,hn,h63',h48',Question.forced,hold,newRow,grownCap,hw,hneg,h48m,hs0,asInt,asIntOf]
 intro h;have:=Nat.mul_pos hm hs;omega
end
end Go.AM
namespace Go.AM
open Go.RowKit
section
variable (P:Program) (okF:FuncId→Bool)
end
section
variable {P:Program} {okF:FuncId→Bool}
def insCs(sz len i:Nat)(cs xs:List Value):List Value:=(cs.take (len*sz)).take (i*sz)++xs++(cs.take (len*sz)).drop (i*sz)
end
end Go.AM
namespace Go.AM
open Go.RowKit
structure Cfg where
 alt:Int
 rule:Int
 dot:Int
 stack:List (Int × Int)
deriving DecidableEq
def RN{α:Type}(sz:Nat)(enc:α→List Value)(H:Heap)(a:Option Addr)(l:List α):Prop :=
 (a=none∧l=[])∨∃x k cs ty own,a=some ⟨x,k,none⟩∧H x=.cells cs ty own∧k+l.length*sz≤cs.length∧(cs.drop k).take (l.length*sz)=l.flatMap enc
section
variable {α:Type} {sz n n':Nat} {enc:α→List Value} {H H':Heap} {a:Option Addr} {l:List α}
theorem RN.mono(h:RN sz enc H a l)(hw:WF n H)(hk:Kp n H n' H'):RN sz enc H' a l:=by
 rcases h with h|⟨x,k,cs,ty,own,e1,e2,e3,e4⟩
 ·exact .inl h
 ·exact .inr ⟨x,k,cs,ty,own,e1,(hk.keep x (live_lt hw (live_of e2))).trans e2,e3,e4⟩
theorem fm_len(he:∀a,(enc a).length=sz):∀l:List α,(l.flatMap enc).length=l.length*sz
 | []=>by simp
 | x::l=>by rw[List.flatMap_cons,List.length_append,fm_len he l,he,List.length_cons,Nat.succ_mul];omega
theorem flat_at(he:∀a,(enc a).length=sz):∀(l:List α) (i:Nat) (h:i<l.length),((l.flatMap enc).drop (i*sz)).take sz=enc l[i]
 | [],_,h=>absurd h (Nat.not_lt_zero _)
 | x::l,0,_=>by rw[Nat.zero_mul,List.drop_zero,List.flatMap_cons,List.take_append_of_le_length (by rw[he];exact Nat.le_refl _),List.take_of_length_le (by rw[he];exact Nat.le_refl _)];rfl
 | x::l,i+1,h=>by
  have ih:=flat_at he l i (by simpa using h)
  have h1:(enc x++l.flatMap enc).drop ((i+1)*sz)=(l.flatMap enc).drop (i*sz):=by
   rw[List.drop_append,he,List.drop_of_length_le (by rw[he,Nat.succ_mul];omega),List.nil_append]
   congr 1
   rw[Nat.succ_mul];omega
  rw[List.flatMap_cons,h1,ih];rfl
theorem RN.at(h:RN sz enc H a l)(he:∀a,(enc a).length=sz){i:Nat}(hi:i<l.length) :
  ∃x k cs ty own,a=some ⟨x,k,none⟩∧H x=.cells cs ty own∧(cs.drop (k+i*sz)).take sz=enc l[i]∧k+i*sz+sz≤cs.length:=by
 rcases h with⟨_,rfl⟩|⟨x,k,cs,ty,own,e1,e2,e3,e4⟩
 ·simp at hi
 ·have h1:(i+1)*sz≤l.length*sz:=Nat.mul_le_mul_right _ hi
  have h2:(i+1)*sz=i*sz+sz:=Nat.succ_mul i sz
  refine⟨x,k,cs,ty,own,e1,e2,?_,by omega⟩
  rw[←flat_at he l i hi,←e4,List.drop_take,List.take_take,List.drop_drop,Nat.min_eq_left (by omega)]
end
def spC(s:Int × Int):List Value:=[.int .i64 s.1,.int .i64 s.2]
theorem spC_len(s:Int × Int):(spC s).length=2:=rfl
def ccell(x:Cfg × Option Addr):List Value:=[.int .i64 x.1.alt,.int .i64 x.1.rule,.int .i64 x.1.dot,.slice x.2 x.1.stack.length x.1.stack.length]
theorem ccell_len(x:Cfg × Option Addr):(ccell x).length=4:=rfl
def StOK(H:Heap)(x:Cfg × Option Addr):Prop:=RN 2 spC H x.2 x.1.stack
def cmpI(a b:Int):Int:=if a<b then -1 else if b<a then 1 else 0
def orI:List Int→Int
 | []=>0
 | a::l=>if a=0 then orI l else a
def cmpS(a b:Int × Int):Int:=orI [cmpI a.1 b.1,cmpI a.2 b.2]
def cmpL:List (Int × Int)→List (Int × Int)→Int
 | [],[]=>0
 | [],_::_=>-1
 | _::_,[]=>1
 | a::l,b::m=>if cmpS a b=0 then cmpL l m else cmpS a b
def cmpC(a b:Cfg):Int:=orI [cmpI a.alt b.alt,cmpS (a.rule,a.dot) (b.rule,b.dot),cmpL a.stack b.stack]
theorem cmpI_small(a b:Int) : -1≤cmpI a b∧cmpI a b≤1:=by unfold cmpI;split <;> (try split) <;> omega
theorem cmpI_zero{a b:Int}:cmpI a b=0↔a=b:=by unfold cmpI;split <;> (try split) <;> omega
theorem cmpI_neg(a b:Int):cmpI b a = -cmpI a b:=by unfold cmpI;split <;> split <;> (try split) <;> omega
theorem cmpI_lt{a b:Int}:cmpI a b = -1↔a<b:=by unfold cmpI;split <;> (try split) <;> omega
theorem cmpS_eq(a b:Int × Int):cmpS a b=if a.1=b.1 then cmpI a.2 b.2 else cmpI a.1 b.1:=by
 unfold cmpS orI orI orI
 by_cases h:a.1=b.1
 ·rw[if_pos (cmpI_zero.2 h),if_pos h];split <;> simp_all
 ·rw[if_neg (fun e=>h (cmpI_zero.1 e)),if_neg h]
theorem cmpS_small(a b:Int × Int) : -1≤cmpS a b∧cmpS a b≤1:=by rw[cmpS_eq];split <;> exact cmpI_small _ _
theorem cmpS_zero{a b:Int × Int}:cmpS a b=0↔a=b:=by
 rw[cmpS_eq]
 by_cases h:a.1=b.1
 ·rw[if_pos h,cmpI_zero];exact⟨fun e=>Prod.ext h e,fun e=>by rw[e]⟩
 ·rw[if_neg h,cmpI_zero];exact⟨fun e=>absurd e h,fun e=>absurd (by rw[e]) h⟩
theorem cmpS_neg(a b:Int × Int):cmpS b a = -cmpS a b:=by
 rw[cmpS_eq,cmpS_eq]
 by_cases h:a.1=b.1
 ·rw[if_pos h,if_pos h.symm];exact cmpI_neg _ _
 ·rw[if_neg h,if_neg (Ne.symm h)];exact cmpI_neg _ _
theorem cmpS_trans{a b c:Int × Int}(h:cmpS a b≤0)(k:cmpS b c≤0):cmpS a c≤0∧(cmpS a c=0→cmpS a b=0∧cmpS b c=0):=by
 simp only[cmpS_eq,cmpI]at *
 split at h <;> split at k <;> (repeat' split at h) <;> (repeat' split at k) <;> (repeat' split) <;> omega
theorem cmpL_small:∀a b,-1≤cmpL a b∧cmpL a b≤1
 | [],[]=>by simp[cmpL]
 | [],_::_=>by simp[cmpL]
 | _::_,[]=>by simp[cmpL]
 | a::l,b::m=>by
  unfold cmpL
  split
  ·exact cmpL_small l m
  ·exact cmpS_small a b
theorem cmpL_zero:∀{a b},cmpL a b=0↔a=b
 | [],[]=>by simp[cmpL]
 | [],_::_=>by simp[cmpL]
 | _::_,[]=>by simp[cmpL]
 | a::l,b::m=>by
  unfold cmpL
  split
  ·rename_i h
   rw[cmpL_zero,cmpS_zero.1 h];simp
  ·rename_i h
   exact⟨fun e=>absurd e h,fun e=>by cases e;exact absurd (cmpS_zero.2 rfl) h⟩
theorem cmpL_neg:∀a b,cmpL b a = -cmpL a b
 | [],[]=>by simp[cmpL]
 | [],_::_=>by simp[cmpL]
 | _::_,[]=>by simp[cmpL]
 | a::l,b::m=>by
  unfold cmpL
  rw[cmpS_neg a b]
  by_cases h:cmpS a b=0
  ·rw[if_pos (by omega),if_pos h];exact cmpL_neg l m
  ·rw[if_neg (by omega),if_neg h]
theorem cmpL_trans:∀{a b c},cmpL a b≤0→cmpL b c≤0→cmpL a c≤0
 | [],[],_,_,h=>h
 | [],_::_,[],_,_=>by simp[cmpL]
 | [],_::_,_::_,_,_=>by simp[cmpL]
 | _::_,[],_,h,_=>by simp[cmpL]at h
 | _::_,_::_,[],_,h=>by simp[cmpL]at h
 | a::l,b::m,c::p,h,k=>by
  unfold cmpL at *
  have hs1:=cmpS_small a b
  by_cases h1:cmpS a b=0
  ·rw[if_pos h1]at h
   rw[cmpS_zero.1 h1]
   by_cases h2:cmpS b c=0
   ·rw[if_pos h2]at k
    rw[if_pos h2];exact cmpL_trans h k
   ·rw[if_neg h2]at k
    rw[if_neg h2];exact k
  ·rw[if_neg h1]at h
   have hk:cmpS b c≤0:=by
    by_cases h2:cmpS b c=0
    ·omega
    ·rw[if_neg h2]at k;exact k
   obtain⟨t1,t2⟩:=cmpS_trans h hk
   rw[if_neg fun e=>h1 (t2 e).1]
   exact t1
theorem cmpC_eq(a b:Cfg):cmpC a b=if a.alt=b.alt then(if(a.rule,a.dot)=(b.rule,b.dot) then cmpL a.stack b.stack else cmpS (a.rule,a.dot) (b.rule,b.dot)) else cmpI a.alt b.alt:=by
 unfold cmpC orI orI orI orI
 by_cases h:a.alt=b.alt
 ·rw[if_pos (cmpI_zero.2 h),if_pos h]
  by_cases h2:(a.rule,a.dot)=(b.rule,b.dot)
  ·rw[if_pos (cmpS_zero.2 h2),if_pos h2];split <;> simp_all
  ·rw[if_neg (fun e=>h2 (cmpS_zero.1 e)),if_neg h2]
 ·rw[if_neg (fun e=>h (cmpI_zero.1 e)),if_neg h]
theorem cmpC_small(a b:Cfg) : -1≤cmpC a b∧cmpC a b≤1:=by
 rw[cmpC_eq]
 split
 ·split
  ·exact cmpL_small _ _
  ·exact cmpS_small _ _
 ·exact cmpI_small _ _
theorem cmpC_zero{a b:Cfg}:cmpC a b=0↔a=b:=by
 rw[cmpC_eq]
 constructor
 ·intro h
  split at h
  ·split at h
   ·rename_i h1 h2
    have h3:=cmpL_zero.1 h
    cases a;cases b
    simp only[Prod.mk.injEq]at h2
    simp_all
   ·rename_i h2
    exact absurd (cmpS_zero.1 h) h2
  ·rename_i h1
   exact absurd (cmpI_zero.1 h) h1
 ·rintro rfl
  rw[if_pos rfl,if_pos rfl];exact cmpL_zero.2 rfl
theorem cmpC_neg(a b:Cfg):cmpC b a = -cmpC a b:=by
 rw[cmpC_eq,cmpC_eq]
 by_cases h1:a.alt=b.alt
 ·rw[if_pos h1,if_pos h1.symm]
  by_cases h2:(a.rule,a.dot)=(b.rule,b.dot)
  ·rw[if_pos h2,if_pos h2.symm];exact cmpL_neg _ _
  ·rw[if_neg h2,if_neg (Ne.symm h2)];exact cmpS_neg _ _
 ·rw[if_neg h1,if_neg (Ne.symm h1)];exact cmpI_neg _ _
theorem cmpC_trans{a b c:Cfg}(h:cmpC a b≤0)(k:cmpC b c≤0):cmpC a c≤0:=by
 rw[cmpC_eq]at h k ⊢
 by_cases h1:a.alt=b.alt
 ·rw[if_pos h1]at h
  rw[h1]
  by_cases h2:b.alt=c.alt
  ·rw[if_pos h2]at k
   rw[if_pos h2]
   by_cases h3:(a.rule,a.dot)=(b.rule,b.dot)
   ·rw[if_pos h3]at h
    rw[h3]
    by_cases h4:(b.rule,b.dot)=(c.rule,c.dot)
    ·rw[if_pos h4]at k ⊢;exact cmpL_trans h k
    ·rw[if_neg h4]at k ⊢;exact k
   ·rw[if_neg h3]at h
    have hk:cmpS (b.rule,b.dot) (c.rule,c.dot)≤0:=by
     by_cases h4:(b.rule,b.dot)=(c.rule,c.dot)
     ·rw[cmpS_zero.2 h4];omega
     ·rw[if_neg h4]at k;exact k
    obtain⟨t1,t2⟩:=cmpS_trans h hk
    rw[if_neg fun e=>h3 (cmpS_zero.1 (t2 (cmpS_zero.2 e)).1)]
    exact t1
  ·rw[if_neg h2]at k ⊢;exact k
 ·rw[if_neg h1]at h
  have hab:a.alt<b.alt:=by unfold cmpI at h;split at h <;> (try split at h) <;> omega
  have hbc:b.alt≤c.alt:=by
   by_cases h2:b.alt=c.alt
   ·omega
   ·rw[if_neg h2]at k;unfold cmpI at k;split at k <;> (try split at k) <;> omega
  rw[if_neg (by omega),cmpI_lt.2 (by omega)];omega
end Go.AM
