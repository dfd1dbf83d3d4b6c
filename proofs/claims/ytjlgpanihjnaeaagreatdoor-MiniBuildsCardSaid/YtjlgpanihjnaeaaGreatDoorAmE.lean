/- A part of a proof. Its conditions: none. -/
import Derived.Test.YtjlgpanihjnaeaaGreatDoorAmA
import Derived.LoopN
set_option linter.all false
namespace Go.AM
open Go.RowKit
section
variable {P:Program} {base:Nat} {ι:Inj} {C H:Heap} {n:Nat} {w:World}
theorem row_of_cell{b o:Nat}{v:Value}(h:w.cell? ⟨b,o,none⟩=some v):∃c e fr,w.heap[b]? = some (.cells c e fr)∧o<c.size:=by
 unfold World.cell? at h
 cases hb:w.heap[b]? with
 | none=>rw[hb]at h;cases h
 | some ob =>
  rw[hb]at h
  cases ob with
  | cells c e fr =>
   refine⟨c,e,fr,rfl,?_⟩
   rcases Nat.lt_or_ge o c.size with g|g
   ·exact g
   ·simp only[Option.isSome_none,Bool.false_eq_true,if_false]at h
    rw[Array.getElem?_eq_none g]at h;cases h
  | _=>cases h
theorem shape_of{b:Nat}{c:Array Value}{e:TypeId}{fr:Nat × Nat}(h:w.heap[b]? = some (.cells c e fr)):w.shape? b=some (e,c.size):=by
 unfold World.shape?;rw[h]
theorem run_seenAt{a:Addr}{sh:TypeId × Nat}(h:w.shape? a.block=some sh):(Conv.seenAt a).run P w=.ok a w:=by
 unfold Conv.seenAt
 simp[viewAt,h]
theorem lies_in{e:TypeId}(hs:P.cellsOf e≠0){count off m:Nat}(ho:off % P.cellsOf e=0)(h:off / P.cellsOf e+m≤count):liesAt P P.depth e count off e m=true:=by
 obtain⟨d,hd⟩:∃d,P.depth=d+1:=⟨_,rfl⟩
 have h1:sameLayout P (d+1) e e=true:=by simp[sameLayout]
 have h2:rowAt P (sameLayout P (d+1) · e) (d+1) e count off m=true:=by simp[rowAt,hs,ho,h,h1]
 rw[hd]
 unfold liesAt
 rw[hd,h2]
 rfl
theorem lies_own{e:TypeId}(hs:P.cellsOf e≠0){cells off:Nat}(ho:off % P.cellsOf e=0)(h:off+P.cellsOf e≤cells):liesAt P P.depth e (cells / P.cellsOf e) off e 1=true:=by
 refine lies_in hs ho ?_
 rw[Nat.le_div_iff_mul_le (Nat.pos_of_ne_zero hs),Nat.add_mul,Nat.one_mul]
 have:=Nat.div_mul_le_self off (P.cellsOf e)
 omega
theorem unsafe_sound(hR:HR P base ι C w){s d:TypeId}{y k:Nat}{x':Value}{r:Res}(h:aunsafe P s d H y k=some r)(hx:VR ι (.pointer (some ⟨y,k,none⟩)) x')
  (hrd:∀x∈r.rd,ι x≠none→C x=H x):Good P base ι C H n r w ((do pure (Next.value (←convert s d x')):Sem Next).run P w):=by
 unfold aunsafe at h
 split at h
 ·rename_i t hs hd
  split at h
  case h_2=>cases h
  rename_i cs ty own j hy hj
  split at h
  case isFalse=>cases h
  rename_i hc
  cases h
  have hx2:=hx
  cases hx with
  | ptr _ _ t' ht =>
   have hC:=hrd y (by simp) (by simp[ht])
   have hob:=hR.obj y
   rw[hC,hy]at hob
   obtain⟨t2,h2,_,hcell,_⟩:=hob
   rw[ht]at h2
   cases h2
   obtain⟨v',h1,_⟩:=hcell k _ (List.getElem?_eq_getElem hc.2)
   obtain⟨c,e,fr,hb,hlt⟩:=row_of_cell h1
   have hsh:=shape_of hb
   have hsa:=run_seenAt (P:=P) (a:=⟨t'.block,t'.off+k,none⟩) hsh
   refine good_value hR (run_value ?_) hx2
   have hn:¬(c.size≤t'.off+k):=by omega
   simp[convert,Conv.unsafePointer,run_underlying hs,run_underlying hd,hsa,cellsIn,hsh,sizeOf,typeInfo,hj,hc.1,hn]
 ·rename_i u hs hd
  split at h
  case h_2=>cases h
  rename_i cs ty j hy hj
  split at h
  case isFalse=>cases h
  rename_i hc
  obtain⟨rfl,hjs,hk,hfit⟩:=hc
  cases h
  have hx2:=hx
  cases hx with
  | ptr _ _ t' ht =>
   have hC:=hrd y (by simp) (by simp[ht])
   have hob:=hR.obj y
   rw[hC,hy]at hob
   obtain⟨t2,h2,hown,hcell,hw⟩:=hob
   rw[ht]at h2
   cases h2
   obtain⟨hesz,⟨hbs,hal⟩,cur,hcur,hcsz⟩:=hw rfl
   have hcof:P.cellsOf ty=j.size:=by simp[Program.cellsOf,hj]
   have hsh:=shape_of hcur
   have hsa:=run_seenAt (P:=P) (a:=⟨t'.block,t'.off+k,none⟩) hsh
   rw[hesz,hcof]at hal
   have hl:=lies_own (P:=P) (e:=ty) (by rw[hcof];exact hjs) (cells:=cur.size) (off:=t'.off+k) (by rw[hcof,Nat.add_mod,hal,hk];simp) (by rw[hcof];omega)
   refine good_value hR (run_value ?_) hx2
   simp[convert,Conv.unsafePointer,run_underlying hs,run_underlying hd,hsa,variablesAt,hsh,sizeOf,typeInfo,hj,hl]
 ·cases h
theorem run_loadBytesInt(l:List Int):∀(b o:Nat) (acc:ByteArray),(∀(j:Nat) (x:Int),l[j]? = some x→w.cell? ⟨b,o+j,none⟩=some (.int .u8 x)) →
  (loadBytes ⟨b,o,none⟩ acc l.length).run P w=.ok ⟨acc.data++(l.map fun n=>UInt8.ofNat n.toNat).toArray⟩ w:=by
 induction l with
 | nil=>intro b o acc _;simp[loadBytes]
 | cons x l ih =>
  intro b o acc h
  have h0:=h 0 x rfl
  rw[Nat.add_zero]at h0
  have h1:=ih b (o+1) (acc.push x.toNat.toUInt8) fun j y hj=>by
   rw[Nat.add_assoc,Nat.add_comm 1 j]
   exact h (j+1) y (by simpa using hj)
  have ha:(⟨b,o,none⟩:Addr).add 1=⟨b,o+1,none⟩:=add_lit b o 1
  simp only[List.length_cons,loadBytes,Sem.run_bind,run_load,h0,Result.andThen,ha,h1]
  simp[ByteArray.push]
theorem freeze_size(w:World)(a:Addr)(m:Nat):(w.freeze a m).heap.size=w.heap.size:=by
 unfold World.freeze;split <;> simp
theorem freeze_other(w:World)(a:Addr)(m:Nat){b:Nat}(h:b≠a.block):(w.freeze a m).heap[b]? = w.heap[b]?:=by
 unfold World.freeze
 split
 ·rfl
 ·simp[Array.getElem?_modify,Ne.symm h]
theorem freeze_cell(w:World)(a:Addr)(m:Nat)(b:Addr):(w.freeze a m).cell? b=w.cell? b:=by
 by_cases h:b.block=a.block
 ·unfold World.freeze
  split
  ·rfl
  ·unfold World.cell?
   simp only[Array.getElem?_modify,h,if_true]
   cases hh:w.heap[a.block]? with
   | none=>rfl
   | some o=>cases o <;> rfl
 ·unfold World.cell?
  rw[freeze_other w a m h]
theorem freeze_at(w:World)(a:Addr)(m:Nat){cur:Array Value}{ty:TypeId}{fr:Nat × Nat}(h:w.heap[a.block]? = some (.cells cur ty fr)):∃fr',(w.freeze a m).heap[a.block]? = some (.cells cur ty fr'):=by
 unfold World.freeze
 split
 ·exact⟨fr,h⟩
 ·simp only[Array.getElem?_modify,if_true,h,Option.map_some]
  exact⟨_,rfl⟩
theorem unstr_core (hR : HR P base ι C w) {ts : Array TypeId} {ty : TypeId} {y k : Nat} {len : Int} {e : TypeId} {j : TypeInfo} {l : List Int} {t' : Tgt} {cur : Array Value} {fr : Nat × Nat} (ht : ι y = some t') (hown : t'.own = true)
    (hC : C y = H y) (hd : H y ≠ .dead) (hnr : ¬ isRows (H y)) (hts : (ts[0]?).bind P.underlying = some (.pointer e)) (hj : P.info? e = some j) (hjs : j.size = 1) (hpos : 0 < len) (hbig : len ≤ bigN) (hfit : k + len.toNat ≤ l.length)
    (hcell : ∀ (i : Nat) (z : Int), l[i]? = some z → w.cell? ⟨t'.block, t'.off + i, none⟩ = some (.int .u8 z)) (hbs : t'.off + l.length ≤ t'.bsize) (hcur : w.heap[t'.block]? = some (.cells cur e fr)) (hcsz : cur.size = t'.bsize) :
    Good P base ι C H n { v := .string (strNums ((l.drop k).take len.toNat)), wr := some (y, .frz l e), rd := [y] } w ((do pure (Next.value (← Builtin.unsafeString_ ts ty #[.pointer (some ⟨t'.block, t'.off + k, none⟩), .int .i64 len])) : Sem Next).run P w) := by
  obtain ⟨pt, hpt, hpu⟩ := Option.bind_eq_some_iff.1 hts
  have hcof : P.cellsOf e = 1 := by simp [Program.cellsOf, hj, hjs]
  have hsh := shape_of hcur
  obtain ⟨xs, hxe⟩ : ∃ xs, xs = (l.drop k).take len.toNat := ⟨_, rfl⟩
  have hlen : xs.length = len.toNat := by rw [hxe, List.length_take, List.length_drop]; omega
  have hlb := run_loadBytesInt (P := P) (w := w) xs t'.block (t'.off + k) .empty fun q z hz => by
    rw [Nat.add_assoc]
    refine hcell (k + q) z ?_
    rw [hxe, List.getElem?_take, List.getElem?_drop] at hz
    split at hz
    · exact hz
    · cases hz
  rw [hlen] at hlb
  have hlies := lies_in (P := P) (e := e) (by rw [hcof]; decide) (count := cur.size / P.cellsOf e) (off := t'.off + k) (m := len.toNat) (by rw [hcof, Nat.mod_one]) (by rw [hcof, Nat.div_one, Nat.div_one]; omega)
  have hb' : len ≤ 34359738368 := hbig
  have h1 : ¬ len < 0 := by omega
  have h2 : ¬ (9223372036854775807 : Int) < len := by omega
  have h3 : ¬ len = 0 := by omega
  have hmax : IntKind.i64.max = 9223372036854775807 := rfl
  have hrun : (Builtin.unsafeString_ ts ty #[.pointer (some ⟨t'.block, t'.off + k, none⟩), .int .i64 len]).run P w = .ok (.string (strNums xs)) (w.freeze ⟨t'.block, t'.off + k, none⟩ len.toNat) := by
    conv => lhs; arg 2; whnf
    simp only [hpt, gt_iff_lt, hmax, h1, h2, h3, if_false]
    simp [elemOf, run_underlying hpu, variablesAt, hsh, hlies, hlb, freeze, Sem.run, strNums]
  rw [← hxe]
  refine ⟨_, _, ι, _, run_value hrun, .inl rfl, .string _, Inj.le_refl ι, fun _ _ => rfl, ?_, ?_, fun z ob e => by (cases e; simp [ht]), fun e => absurd rfl e⟩
  · rw [heap_wr, patch_set (.inl hC)]
    have hlt := (hR.rng y t' ht).1
    refine hR.update (κ := ι) (t := t') (Inj.le_refl ι) ht (fun _ _ => rfl) (by rw [freeze_size]; exact Nat.le_refl _) (fun q _ hq => freeze_other _ _ _ hq) ?_ hown ((hR.rng y t' ht).2.1 hown) (by rw [freeze_size]; exact hlt) ?_
    · intro z u hz hd' eu hbl
      exact hz (hR.uniq (x := y) (by rw [hC]; exact hd) (by rw [hC]; exact hnr) hd' ht eu hown hbl.symm).symm
    · obtain ⟨fr', hfr⟩ := freeze_at w ⟨t'.block, t'.off + k, none⟩ len.toNat hcur
      exact ⟨t', ht, hown, fun i z e => by rw [freeze_cell]; exact hcell i z e, hbs, cur, fr', hfr, hcsz⟩
  · have h4 : (w.freeze ⟨t'.block, t'.off + k, none⟩ len.toNat).os = w.os ∧ (w.freeze ⟨t'.block, t'.off + k, none⟩ len.toNat).tape = w.tape ∧ (w.freeze ⟨t'.block, t'.off + k, none⟩ len.toNat).output = w.output := by
      unfold World.freeze; split <;> exact ⟨rfl, rfl, rfl⟩
    exact ⟨h4.1, h4.2.1, h4.2.2, by rw [freeze_size]; exact Nat.le_refl _, fun b hb => freeze_other _ _ _ (by have := (hR.rng y t' ht).2.1 hown; simp only; omega)⟩
theorem unstr_sound(hR:HR P base ι C w){ts:Array TypeId}{ty:TypeId}{x x' m m':Value}{r:Res}(h:aunstr P H ts x m=some r)(hx:VR ι x x')(hm:VR ι m m')
  (hrd:∀x∈r.rd,ι x≠none→C x=H x):Good P base ι C H n r w ((do pure (Next.value (←Builtin.unsafeString_ ts ty #[x',m'])):Sem Next).run P w):=by
 unfold aunstr at h
 split at h
 case h_2=>cases h
 rename_i y k len e hts
 cases hm
 split at h
 ·rename_i cs ety j hy hj
  split at h
  case isFalse=>cases h
  rename_i hc
  obtain⟨rfl,hjs,hpos,hbig,hfit⟩:=hc
  obtain⟨xs,hxs,rfl⟩:=Option.map_eq_some_iff.1 h
  cases hx with
  | ptr _ _ t' ht =>
   have hC:=hrd y (by simp) (by simp[ht])
   have hob:=hR.obj y
   rw[hC,hy]at hob
   obtain⟨t2,h2,hown,hcell,hw⟩:=hob
   rw[ht]at h2
   cases h2
   obtain⟨hesz,⟨hbs,hal⟩,cur,hcur,hcsz⟩:=hw rfl
   have hcs:cs=xs.map (Value.int .u8):=bytesOf_spec hxs
   have hlen:cs.length=xs.length:=by rw[hcs,List.length_map]
   refine unstr_core hR ht hown hC (by rw[hy];intro e;cases e) (by rw[hy];exact id) hts hj hjs hpos hbig (by omega) (fun i z hz=>?_) (by omega) hcur hcsz
   obtain⟨v',g1,g2,_⟩:=hcell i (.int .u8 z) (by rw[hcs,List.getElem?_map,hz];rfl)
   cases g2
   exact g1
 ·rename_i l ety j hy hj
  split at h
  case isFalse=>cases h
  rename_i hc
  obtain⟨rfl,hjs,hpos,hbig,hfit⟩:=hc
  cases h
  cases hx with
  | ptr _ _ t' ht =>
   have hC:=hrd y (by simp) (by simp[ht])
   have hob:=hR.obj y
   rw[hC,hy]at hob
   obtain⟨t2,h2,hown,hcell,hbs,cur,fr,hcur,hcsz⟩:=hob
   rw[ht]at h2
   cases h2
   exact unstr_core hR ht hown hC (by rw[hy];intro e;cases e) (by rw[hy];exact id) hts hj hjs hpos hbig hfit hcell hbs hcur hcsz
 ·cases h
end
end Go.AM
namespace Go.AM
open Go.RowKit
theorem veq1_eq{a b:Value}(h:veq1 a b=true):a=b:=by
 cases a <;> cases b <;> simp[veq1]at h
 all_goals first
  | (obtain⟨rfl,rfl⟩:=h;rfl)
  | (subst h;rfl)
  | (rw[ByteArray.ext h])
theorem veqs_eq:∀{a b:List Value},veqs a b=true→a=b:=by
 intro a
 induction a with
 | nil=>intro b h;cases b with
  | nil=>rfl
  | cons=>simp[veqs]at h
 | cons x a ih=>intro b h;cases b with
  | nil=>simp[veqs]at h
  | cons y b =>
   simp only[veqs,Bool.and_eq_true]at h
   rw[veq1_eq h.1,ih h.2]
theorem veq_eq{a b:Value}(h:veq a b=true):a=b:=by
 unfold veq at h
 split at h
 ·rw[Array.toList_inj.1 (veqs_eq h)]
 ·exact veq1_eq h
theorem veqs_lits(L:List Lit):veqs (L.map Lit.toCell) (L.map Lit.toCell)=true:=by
 induction L with
 | nil=>rfl
 | cons l L ih =>
  simp only[List.map_cons,veqs,ih,Bool.and_true]
  cases l <;> simp[Lit.toCell,veq1]
theorem aggK_parts{P:Program}{kt:TypeId}(h:aggK P kt=true):P.keyTypeAt 8 kt=true∧P.tiled 8 kt=true∧(match P.underlying kt with|some (.array _ _)|some (.struct _)=>true|_=>false)=true:=by
 unfold aggK at h
 simp only[Bool.and_eq_true]at h
 exact⟨h.1.1,h.1.2,h.2⟩
theorem baseK_parts{P:Program}{kt:TypeId}(h:baseK P kt=true):∃d,P.underlying kt=some d∧∀v l,keyOf P kt v=some l→MapKept.IsKey d v∧veq v v=true:=by
 unfold baseK at h
 split at h
 ·rename_i k hk
  refine⟨_,hk,fun v l hv=>?_⟩
  simp only[keyOf,hk]at hv
  unfold mapKey at hv
  cases v <;> simp[hk]at hv
  rename_i q n
  exact⟨hv.1.1,by simp[veq,veq1]⟩
 ·rename_i hk
  refine⟨_,hk,fun v l hv=>?_⟩
  simp only[keyOf,hk]at hv
  unfold mapKey at hv
  cases v <;> simp[hk]at hv
  exact⟨trivial,by simp[veq,veq1]⟩
 ·cases h
structure KL(P:Program)(k:TypeId):Prop where
 check:∀(w:World) (em:Bool) {v:Value} {l:Lit},keyOf P k v=some l→(Instr.checkKey em 10000 k v).run P w=.ok () w
 find:∀(w:World) {x:Value} {lx:Lit},keyOf P k x=some lx→∀es:List MapEntry,(∀e∈es,∃l,keyOf P k e.key=some l) →
  ((Instr.findKey k x es).run P w=.ok none w∧∀e∈es,e.key≠x)∨∃j e,(Instr.findKey k x es).run P w=.ok (some (j,e.val)) w∧es[j]? = some e∧e.key=x
 stays:∀(w:World) {v:Value} {l:Lit},keyOf P k v=some l→(Instr.keyThatStays v v).run P w=.ok v w
theorem wideK_law{P:Program}{kt:TypeId}(h:wideK P kt=true):KL P kt:=by
 rcases Bool.or_eq_true_iff.1 h with h|h
 ·have K:WideMaps.KeyLaw P kt:=deep_law (m:=8) (by decide) (aggK_parts h).1 (aggK_parts h).2.1 (aggK_parts h).2.2
  exact⟨fun w em _ _ h=>K.check w em h,fun w _ _ h=>K.find w h,fun w _ _ h=>K.stays w h⟩
 ·obtain⟨d,hd,hv⟩:=baseK_parts h
  refine⟨fun w em _ _ h=>MapKept.run_checkKey hd (hv _ _ h).1 em 9999,fun w x lx hx es hes=>?_,fun w _ _ h=>MapKept.run_keyThatStays (hv _ _ h).1⟩
  have hks:∀e∈es,MapKept.IsKey d e.key:=fun e he=>by
   obtain⟨l,hl⟩:=hes e he
   exact(hv _ _ hl).1
  rcases MapKept.findNow_spec (hv _ _ hx).1 es 0 hks with⟨h1,h2⟩|⟨j,e0,h1,h2,h3⟩
  ·exact Or.inl ⟨MapKept.run_findKey hd h1,h2⟩
  ·exact Or.inr ⟨j,e0,by simpa using MapKept.run_findKey hd h1,h2,h3⟩
theorem veq_self{P:Program}{kt:TypeId}(h:wideK P kt=true){v:Value}(hk:(keyOf P kt v).isSome=true):veq v v=true:=by
 obtain⟨l,hl⟩:=Option.isSome_iff_exists.1 hk
 rcases Bool.or_eq_true_iff.1 h with h|h
 ·obtain⟨xs,L,rfl,h1,_⟩:=keyOf_top (aggK_parts h).2.2 hl
  have:=cells_of_lits 8 kt (aggK_parts h).2.1 _ _ _ h1
  show veqs xs.toList xs.toList=true
  rw[this]
  exact veqs_lits L
 ·obtain⟨d,hd,hv⟩:=baseK_parts h
  exact(hv _ _ hl).2
theorem find_run{P:Program}{kt:TypeId}{k:Value}{es l:List MapEntry}{r:Option Nat}(hf:afind P kt k es=some r)(hk:es.map (·.key)=l.map (·.key))(hall:∀e∈es,(keyOf P kt e.key).isSome=true)(hnd:(es.map (·.key)).Nodup)(w:World) :
  flat k=true∧(keyOf P kt k).isSome=true∧(∀em,(Instr.checkKey em 10000 kt k).run P w=.ok () w)∧(Instr.keyThatStays k k).run P w=.ok k w∧(r=none→∀e∈es,e.key≠k)∧(∀j,r=some j→∃e,es[j]? = some e∧e.key=k) ∧
  ∃r',(Instr.findKey kt k l).run P w=.ok r' w∧r'.map (·.1)=r∧∀j v,r'=some (j,v)→∃e,l[j]? = some e∧e.val=v:=by
 unfold afind at hf
 split at hf
 case isFalse=>cases hf
 rename_i hc
 obtain⟨hw,hflat,hks⟩:=hc
 cases hf
 have K:=wideK_law hw
 obtain⟨kl,hkl⟩:=Option.isSome_iff_exists.1 hks
 have hall':∀e∈l,∃q,keyOf P kt e.key=some q:=fun e he=>by
  have:e.key∈es.map (·.key):=by rw[hk];exact List.mem_map.2 ⟨e,he,rfl⟩
  obtain⟨e0,he0,h0⟩:=List.mem_map.1 this
  have:=hall e0 he0
  rw[h0]at this
  exact Option.isSome_iff_exists.1 this
 have hat:∀(j:Nat) (e:MapEntry),l[j]? = some e→∃e0,es[j]? = some e0∧e0.key=e.key:=fun j e he=>by
  have h1:(es.map (·.key))[j]? = some e.key:=by rw[hk,List.getElem?_map,he];rfl
  rw[List.getElem?_map]at h1
  obtain⟨e0,h2,h3⟩:=Option.map_eq_some_iff.1 h1
  exact⟨e0,h2,h3⟩
 refine⟨hflat,hks,fun em=>K.check w em hkl,K.stays w hkl,fun hn e he e'=>?_,fun j hj=>?_,?_⟩
 ·rw[List.findIdx?_eq_none_iff]at hn
  have h1:=hn e he
  rw[e',veq_self hw hks]at h1
  cases h1
 ·rw[List.findIdx?_eq_some_iff_getElem]at hj
  obtain⟨hj1,hj2,_⟩:=hj
  exact⟨es[j],List.getElem?_eq_getElem hj1,veq_eq hj2⟩
 ·rcases K.find w hkl l hall' with⟨h1,h2⟩|⟨j,e,h1,h2,h3⟩
  ·refine⟨none,h1,?_,fun j v e=>by cases e⟩
   symm
   rw[Option.map_none,List.findIdx?_eq_none_iff]
   intro x hx
   cases hv:veq x.key k with
   | false=>rfl
   | true =>
    exfalso
    have:x.key∈l.map (·.key):=by rw[←hk];exact List.mem_map.2 ⟨x,hx,rfl⟩
    obtain⟨y,hy,hyk⟩:=List.mem_map.1 this
    exact h2 y hy (by rw[hyk];exact veq_eq hv)
  ·refine⟨_,h1,?_,fun j' v' e'=>by cases e';exact⟨e,h2,rfl⟩⟩
   symm
   rw[Option.map_some,List.findIdx?_eq_some_iff_getElem]
   obtain⟨e0,h4,h5⟩:=hat j e h2
   obtain⟨hj1,hj2⟩:=List.getElem?_eq_some_iff.1 h4
   refine⟨hj1,?_,fun q hq=>?_⟩
   ·rw[hj2,h5,h3];exact veq_self hw hks
   ·intro hv
    have h6:=veq_eq hv
    have:=(List.pairwise_iff_getElem.1 hnd) q j (by simp;omega) (by simp;exact hj1) hq
    simp only[List.getElem_map]at this
    exact this (by rw[h6,hj2,h5,h3])
section
variable {P:Program} {base:Nat} {ι:Inj} {C H:Heap} {n:Nat} {w:World}
theorem all_flat_eq{l l':List Value}(h:l.all flat=true)(r:VRs ι l l'):l'=l:=by
 induction l generalizing l' with
 | nil=>exact r.nil_inv
 | cons v l ih =>
  obtain⟨v',k,rfl,r1,r2⟩:=r.cons_inv
  simp only[List.all_cons,Bool.and_eq_true]at h
  rw[flat_eq h.1 r1,ih h.2 r2]
theorem map_obj(hR:HR P base ι C w){y:Nat}{es:List MapEntry}{clock:Nat}{kt:TypeId}(hC:C y=.map es clock kt):∃t es',ι y=some t∧t.own=true∧w.heap[t.block]? = some (.map es' clock) ∧
  es.map (·.key)=es'.toList.map (·.key)∧VRs ι (es.map (·.val)) (es'.toList.map (·.val))∧es.map (·.born)=es'.toList.map (·.born)∧(es.map (·.key)).all flat=true∧(∀e∈es,(keyOf P kt e.key).isSome=true)∧(es.map (·.key)).Nodup:=by
 have h:=hR.obj y
 rw[hC]at h
 obtain⟨t,es',h1,h2,h3,h4,h5,h6,h7,h9,h10⟩:=h
 have h8:(es.map (·.key)).all flat=true:=by
  rw[List.all_map];exact h7
 exact⟨t,es',h1,h2,h3,(all_flat_eq h8 h4).symm,h5,h6,h8,h9,h10⟩
theorem lookup_sound (hR : HR P base ι C w) {xt : TypeId} {x x' k k' : Value} {ok : Bool} {r : Res} (h : alookup P xt H x k ok = some r) (hx : VR ι x x') (hk : VR ι k k') (hrd : ∀ x ∈ r.rd, ι x ≠ none → C x = H x) :
    Good P base ι C H n r w ((do pure (Next.value (← Instr.lookup xt x' k' ok)) : Sem Next).run P w) := by
  unfold alookup at h
  split at h
  case h_2 => cases h
  rename_i kt et y hxt
  split at h
  case h_2 => cases h
  rename_i es clock kt' hy
  split at h
  case isFalse => cases h
  rename_i hkt
  subst hkt
  cases hx with
  | map _ t' ht' =>
    have key : ∀ rr : Res, rr.rd = [y] → (∀ z ∈ rr.rd, ι z ≠ none → C z = H z) → ∀ ro, afind P kt' k es = some ro → ∃ es', w.heap[t'.block]? = some (.map es' clock) ∧ VRs ι (es.map (·.val)) (es'.toList.map (·.val)) ∧ k' = k ∧
        (Instr.checkKey es'.isEmpty 10000 kt' k).run P w = .ok () w ∧ ∃ r', (Instr.findKey kt' k es'.toList).run P w = .ok r' w ∧ r'.map (·.1) = ro ∧ ∀ j v, r' = some (j, v) → ∃ e, es'.toList[j]? = some e ∧ e.val = v := by
      intro rr hr1 hr2 ro hf
      have hC := hr2 y (by simp [hr1]) (by simp [ht'])
      obtain ⟨t, es', h1, _, h3, h4, h5, _, _, h8, h9⟩ := map_obj hR (hC.trans hy)
      rw [ht'] at h1
      cases h1
      obtain ⟨f1, _, f2, _, _, _, f4⟩ := find_run hf h4 h8 h9 w
      exact ⟨es', h3, h5, flat_eq f1 hk, f2 _, f4⟩
    split at h
    · rename_i i hf
      split at h
      case h_2 => cases h
      rename_i e he
      cases h
      obtain ⟨es', h1, h2, rfl, h3, r', h4, h5, h6⟩ := key _ rfl hrd _ hf
      cases r' with
      | none => cases h5
      | some p =>
        obtain ⟨j, v⟩ := p
        have : j = i := by simpa using h5
        subst this
        obtain ⟨e', q1, q2⟩ := h6 j v rfl
        have hv : VR ι e.val v := h2.2 j e.val v (by rw [List.getElem?_map, he]; rfl) (by rw [List.getElem?_map, q1]; simp [q2])
        have hg : (getObj t'.block).run P w = .ok (.map es' clock) w := by simp [getObj, Sem.run, h1]
        refine good_value hR (run_value (v := if ok then .tuple #[v, .bool true] else v) ?_) ?_
        · simp [Instr.lookup, run_underlying hxt, hg, h3, h4]
        · cases ok
          · exact hv
          · exact (VRs.cons hv (VRs.cons (.bool true) (.nil ι))).tuple
    · rename_i hf
      split at h
      case h_2 => cases h
      rename_i z hz
      split at h
      case isFalse => cases h
      rename_i hstill
      cases h
      obtain ⟨es', h1, h2, rfl, h3, r', h4, h5, h6⟩ := key _ rfl hrd _ hf
      cases r' with
      | some p => cases h5
      | none =>
        obtain ⟨i, hi, hz'⟩ := Option.bind_eq_some_iff.1 hz
        have hg : (getObj t'.block).run P w = .ok (.map es' clock) w := by simp [getObj, Sem.run, h1]
        refine good_value hR (run_value (v := if ok then .tuple #[z, .bool false] else z) ?_) ?_
        · simp [Instr.lookup, run_underlying hxt, hg, h3, h4, zeroValue, typeInfo, hi, hz']
        · cases ok
          · exact still_refl ι hstill
          · exact (VRs.cons (still_refl ι hstill) (VRs.cons (.bool false) (.nil ι))).tuple
    · cases h
theorem setObj_run{b:Nat}{es es2:Array MapEntry}{c c2:Nat}(h:w.heap[b]? = some (.map es c)):(setObj b (.map es2 c2)).run P w=.ok () { w with heap:=w.heap.setIfInBounds b (.map es2 c2) }:=by
 simp[setObj,Sem.run,h]
theorem mapset_sound (hR : HR P base ι C w) {mt : TypeId} {m m' k k' v v' : Value} {r : Res} (h : amapset P mt H m k v = some r) (hm : VR ι m m') (hk : VR ι k k') (hv : VR ι v v') (hwr : ∀ x o, r.wr = some (x, o) → ι x ≠ none → C x = H x) :
    Good P base ι C H n r w ((do Instr.mapUpdate mt m' k' v'; pure Next.skip : Sem Next).run P w) := by
  unfold amapset at h
  split at h
  case h_2 => cases h
  rename_i kt et y hmt
  split at h
  case h_2 => cases h
  rename_i es clock kt' hy
  split at h
  case isFalse => cases h
  rename_i hkt
  subst hkt
  cases hm with
  | map _ t' ht' =>
    have fin : ∀ (es2 : List MapEntry) (c2 : Nat) (es2' : Array MapEntry) (es' : Array MapEntry), C y = .map es clock kt' → t'.own = true → w.heap[t'.block]? = some (.map es' clock) →
        VRs ι (es2.map (·.key)) (es2'.toList.map (·.key)) → VRs ι (es2.map (·.val)) (es2'.toList.map (·.val)) → es2.map (·.born) = es2'.toList.map (·.born) → (es2.all fun e => flat e.key) = true → (∀ e ∈ es2, (keyOf P kt' e.key).isSome = true) → (es2.map (·.key)).Nodup →
        (Instr.mapUpdate mt (.map (some t'.block)) k' v').run P w = .ok () { w with heap := w.heap.setIfInBounds t'.block (.map es2' c2) } →
        Good P base ι C H n { v := undef, wr := some (y, .map es2 c2 kt') } w ((do Instr.mapUpdate mt (.map (some t'.block)) k' v'; pure Next.skip : Sem Next).run P w) := by
      intro es2 c2 es2' es' hCy hown hblk q1 q2 q3 q4 q5 q6 hrun
      have hC : C y = H y := by rw [hCy, hy]
      have hlt := (hR.rng y t' ht').1
      refine ⟨_, _, ι, undef, run_skip hrun, .inr ⟨rfl, rfl⟩, undef_refl ι, Inj.le_refl ι, fun _ _ => rfl, ?_, ?_, fun z ob e => by (cases e; simp [ht']), fun e => absurd rfl e⟩
      · rw [heap_wr, patch_set (.inl hC)]
        refine hR.update (κ := ι) (t := t') (Inj.le_refl ι) ht' (fun _ _ => rfl) (by simp) (fun j _ hj => by simp [Array.getElem?_setIfInBounds, Ne.symm hj]) ?_ hown ((hR.rng y t' ht').2.1 hown) (by simp; exact hlt) ?_
        · intro z u hz hd e hbl
          exact hz (hR.uniq (x := y) (by rw [hCy]; intro e; cases e) (by rw [hCy]; exact id) hd ht' e hown hbl.symm).symm
        · exact ⟨t', es2', ht', hown, by simp [Array.getElem?_setIfInBounds, hlt], q1, q2, q3, q4, q5, q6⟩
      · exact ⟨rfl, rfl, rfl, by simp, fun b hb => by
          have := (hR.rng y t' ht').2.1 hown
          simp [Array.getElem?_setIfInBounds, show t'.block ≠ b by omega]⟩
    have key : ∀ ro, afind P kt' k es = some ro → (∀ z ∈ [y], ι z ≠ none → C z = H z) → ∃ es', C y = .map es clock kt' ∧ t'.own = true ∧ w.heap[t'.block]? = some (.map es' clock) ∧ es.map (·.key) = es'.toList.map (·.key) ∧ VRs ι (es.map (·.val)) (es'.toList.map (·.val)) ∧ es.map (·.born) = es'.toList.map (·.born) ∧ (es.map (·.key)).all flat = true ∧
        (∀ e ∈ es, (keyOf P kt' e.key).isSome = true) ∧ (es.map (·.key)).Nodup ∧ flat k = true ∧ (keyOf P kt' k).isSome = true ∧ k' = k ∧ (Instr.checkKey false 10000 kt' k).run P w = .ok () w ∧ (Instr.keyThatStays k k).run P w = .ok k w ∧ (ro = none → ∀ e ∈ es, e.key ≠ k) ∧ (∀ j, ro = some j → ∃ e, es[j]? = some e ∧ e.key = k) ∧ ∃ r', (Instr.findKey kt' k es'.toList).run P w = .ok r' w ∧ r'.map (·.1) = ro := by
      intro ro hf hc
      have hC := hc y (by simp) (by simp [ht'])
      obtain ⟨t, es', h1, h2, h3, h4, h5, h6, h7, h8, h9⟩ := map_obj hR (hC.trans hy)
      rw [ht'] at h1
      cases h1
      obtain ⟨f1, f2, f3, f4, f5, f6, r', f7, f8, _⟩ := find_run hf h4 h8 h9 w
      exact ⟨es', hC.trans hy, h2, h3, h4, h5, h6, h7, h8, h9, f1, f2, flat_eq f1 hk, f3 _, f4, f5, f6, r', f7, f8⟩
    have hself : ∀ {l : List Value}, l.all flat = true → VRs ι l l := fun {l} hl => ⟨rfl, fun q a b h1 h2 => by
      rw [h1] at h2; cases h2
      exact flat_refl ι (List.all_eq_true.1 hl a (List.mem_of_getElem? h1))⟩
    split at h
    · rename_i i hf
      cases h
      obtain ⟨es', hCy, hown, hblk, hkeys, hvals, hborn, hfl, hks, hnd, hfk, hkk, rfl, hck, hst, _, hat, r', hfr, hr'⟩ := key _ hf (fun z hz => by
        have : z = y := by simpa using hz
        subst this
        exact hwr z _ rfl)
      cases r' with
      | none => cases hr'
      | some p =>
        obtain ⟨j, u⟩ := p
        have : j = i := by simpa using hr'
        subst this
        obtain ⟨e, he, hek⟩ := hat j rfl
        have hil : j < es.length := (List.getElem?_eq_some_iff.1 he).1
        have hlen : es.length = es'.toList.length := by have := congrArg List.length hkeys; simpa using this
        have hil' : j < es'.size := by rw [hlen] at hil; simpa using hil
        have hkey' : es'[j].key = k' := by
          have := congrArg (fun l => l[j]?) hkeys
          simp only [List.getElem?_map, he, Array.getElem?_toList, Array.getElem?_eq_getElem hil', Option.map_some] at this
          rw [← Option.some.inj this]; exact hek
        have hgo : (getObj t'.block).run P w = .ok (.map es' clock) w := by simp [getObj, Sem.run, hblk]
        have e1 : (es.modify j fun e => { e with val := v }).map (·.key) = es.map (·.key) := by
          apply List.ext_getElem?; intro q
          simp only [List.getElem?_map, List.getElem?_modify]
          by_cases hq : j = q
          · subst hq; simp [hil]
          · simp [hq]
        have e2 : (es'.modify j fun e => { e with key := k', val := v' }).toList.map (·.key) = es'.toList.map (·.key) := by
          apply List.ext_getElem?; intro q
          simp only [List.getElem?_map, Array.getElem?_toList, Array.getElem?_modify]
          by_cases hq : j = q
          · subst hq; simp [hil', hkey']
          · simp [hq]
        refine fin _ clock (es'.modify j fun e => { e with key := k', val := v' }) es' hCy hown hblk ?_ ?_ ?_ ?_ ?_ ?_ ?_
        · rw [e1, e2, ← hkeys]
          exact hself hfl
        · have e1 : (es.modify j fun e => { e with val := v }).map (·.val) = (es.map (·.val)).set j v := by
            apply List.ext_getElem?; intro q
            simp only [List.getElem?_map, List.getElem?_modify, List.getElem?_set, List.length_map]
            by_cases hq : j = q
            · subst hq; simp [hil]
            · simp [hq]
          have e2 : (es'.modify j fun e => { e with key := k', val := v' }).toList.map (·.val) = (es'.toList.map (·.val)).set j v' := by
            apply List.ext_getElem?; intro q
            simp only [List.getElem?_map, List.getElem?_set, List.length_map, Array.getElem?_toList, Array.getElem?_modify]
            by_cases hq : j = q
            · subst hq; simp [hil']
            · simp [hq]
          rw [e1, e2]
          exact hvals.set j hv
        · have e1 : (es.modify j fun e => { e with val := v }).map (·.born) = es.map (·.born) := by
            apply List.ext_getElem?; intro q
            simp only [List.getElem?_map, List.getElem?_modify]
            by_cases hq : j = q
            · subst hq; simp [hil]
            · simp [hq]
          have e2 : (es'.modify j fun e => { e with key := k', val := v' }).toList.map (·.born) = es'.toList.map (·.born) := by
            apply List.ext_getElem?; intro q
            simp only [List.getElem?_map, Array.getElem?_toList, Array.getElem?_modify]
            by_cases hq : j = q
            · subst hq; simp [hil']
            · simp [hq]
          rw [e1, e2]; exact hborn
        · have : ((es.modify j fun e => { e with val := v }).map (·.key)).all flat = true := by rw [e1]; exact hfl
          rw [List.all_map] at this; exact this
        · intro x hx
          have : x.key ∈ es.map (·.key) := by rw [← e1]; exact List.mem_map.2 ⟨x, hx, rfl⟩
          obtain ⟨x0, hx0, hk0⟩ := List.mem_map.1 this
          rw [← hk0]; exact hks x0 hx0
        · rw [e1]; exact hnd
        · simp [Instr.mapUpdate, run_underlying hmt, hgo, hck, hfr, hil', hkey', hst, setObj_run hblk]
    · rename_i hf
      cases h
      obtain ⟨es', hCy, hown, hblk, hkeys, hvals, hborn, hfl, hks, hnd, hfk, hkk, rfl, hck, hst, hno, _, r', hfr, hr'⟩ := key _ hf (fun z hz => by
        have : z = y := by simpa using hz
        subst this
        exact hwr z _ rfl)
      cases r' with
      | some p => cases hr'
      | none =>
        have hgo : (getObj t'.block).run P w = .ok (.map es' clock) w := by simp [getObj, Sem.run, hblk]
        refine fin _ (clock + 1) (es'.push ⟨k', v', clock⟩) es' hCy hown hblk ?_ ?_ ?_ ?_ ?_ ?_ ?_
        · simp only [List.map_append, Array.toList_push, List.map_cons, List.map_nil]
          refine VRs.append ?_ (.cons (flat_refl ι hfk) (.nil ι))
          rw [← hkeys]
          exact hself hfl
        · simp only [List.map_append, Array.toList_push, List.map_cons, List.map_nil]
          exact hvals.append (.cons hv (.nil ι))
        · simp only [List.map_append, Array.toList_push, List.map_cons, List.map_nil, hborn]
        · rw [List.all_append, Bool.and_eq_true]
          refine ⟨?_, by simp [hfk]⟩
          rw [List.all_map] at hfl; exact hfl
        · intro x hx
          rcases List.mem_append.1 hx with hx | hx
          · exact hks x hx
          · have : x = ⟨k', v, clock⟩ := by simpa using hx
            subst this; exact hkk
        · rw [List.map_append, List.nodup_append]
          refine ⟨hnd, by simp, fun a ha b hb => ?_⟩
          have : b = k' := by simpa using hb
          subst this
          obtain ⟨x, hx, rfl⟩ := List.mem_map.1 ha
          exact hno rfl x hx
        · simp [Instr.mapUpdate, run_underlying hmt, hgo, hck, hfr, setObj_run hblk]
    · cases h
theorem mkmap_sound(hR:HR P base ι C w){t kt:TypeId}(hn:ι n=none∧H n=.dead) :
  Good P base ι C H n { v:=.map (some n),news:=[.map [] 0 kt] } w ((do pure (Next.value (←Instr.makeMap t none)):Sem Next).run P w):=by
 obtain⟨h1,h2⟩:=hn
 refine⟨.value (.map (some w.heap.size)),w.alloc (.map #[] 0),iset ι n ⟨w.heap.size,0,true,0,0⟩,.map (some w.heap.size),?_,.inl rfl,?_,iset_le _ h1,fun x hx=>?_,?_,?_,fun _ _ e=>by(cases e),fun _=>by simp[iset_same]⟩
 ·exact run_value (by simp[Instr.makeMap,newObj,Sem.run])
 ·exact .map n _ (iset_same _ _ _)
 ·rcases hx with hx|hx
  ·exact iset_other _ _ hx
  ·cases hx
 ·rw[heap_new,patch_set (.inr (by rw[h2];intro e;cases e))]
  refine hR.update (t:=⟨w.heap.size,0,true,0,0⟩) (iset_le _ h1) (iset_same _ _ _) (fun x hx=>iset_other _ _ hx) (by simp) (fun k hk _=>Go.heap_alloc_old w _ hk) ?_ rfl hR.size (by simp) ?_
  ·intro y u hy hd e
   have:=(hR.rng y u e).1
   exact Nat.ne_of_lt this
  ·exact⟨_,#[],iset_same _ _ _,rfl,heap_alloc_new w _,.nil _,.nil _,rfl,rfl,(fun e he=>by cases he),List.nodup_nil⟩
 ·exact(Below.refl _ _).alloc hR.size _
end
end Go.AM
namespace Go.AM
open Go.RowKit
section
variable {P:Program} {base:Nat} {ι:Inj} {C H:Heap} {n:Nat} {w:World}
theorem HR.untop (h : HR P base ι C w) {y : Nat} {cs : List Value} {ty : TypeId} (hy : C y = .rows cs ty true) : HR P base ι (hset C y (.rows cs ty false)) w := by
  have alive : ∀ z, hset C y (.rows cs ty false) z ≠ .dead → C z ≠ .dead := fun z hz => by
    rw [hset_apply] at hz
    split at hz
    · rename_i e; subst e; rw [hy]; intro e; cases e
    · exact hz
  have rws : ∀ z, isRows (hset C y (.rows cs ty false) z) ↔ isRows (C z) := fun z => by
    rw [hset_apply]
    split
    · rename_i e; subst e; rw [hy]; simp [isRows]
    · rfl
  refine ⟨fun z => ?_, fun z q t u hz hq ez eq ho hb => ?_, h.rng, h.size, h.gl, fun z q t u as ta b bs tb hz hq ez eq hb => ?_⟩
  · rw [hset_apply]; split
    · rename_i e; subst e
      have := h.obj z
      rw [hy] at this
      exact this
    · exact h.obj z
  · rcases h.inj z q t u (alive z hz) (alive q hq) ez eq ho hb with e | e
    · exact .inl e
    · exact .inr ⟨(rws z).2 e.1, (rws q).2 e.2⟩
  · have hq' : C q = .rows bs tb true := by
      rw [hset_apply] at hq
      split at hq
      · cases hq
      · exact hq
    rw [hset_apply] at hz
    split at hz
    · rename_i e
      subst e
      cases hz
      rcases h.last z q t u cs ty true bs tb hy hq' ez eq hb with e | ⟨e, _⟩
      · exact .inl e
      · cases e
    · exact h.last z q t u as ta b bs tb hz hq' ez eq hb
theorem HR.allocR(h:HR P base ι C w)(hn:ι n=none){cs:List Value}{cur:Array Value}{ty:TypeId}
  (hc:∀(i:Nat) (v:Value),cs[i]? = some v→∃v',cur[i]? = some v'∧VR ι v v'∧one v=true) (hl:cs.length≤cur.size) :
  HR P base (iset ι n ⟨w.heap.size,0,true,P.cellsOf ty,cur.size⟩) (hset C n (.rows cs ty true)) (w.alloc (.cells cur ty)):=by
 refine h.update (t:=⟨w.heap.size,0,true,P.cellsOf ty,cur.size⟩) (iset_le _ hn) (iset_same _ _ _) (fun x hx=>iset_other _ _ hx) (by simp) (fun k hk _=>Go.heap_alloc_old w _ hk) ?_ rfl h.size (by simp) ?_
 ·intro y u hy hd e
  have:=(h.rng y u e).1
  exact Nat.ne_of_lt this
 ·refine⟨_,iset_same _ _ _,rfl,fun i v e=>?_,rfl,⟨by simpa using hl,Nat.zero_mod _⟩,cur,heap_alloc_new w _,rfl⟩
  obtain⟨v',h1,h2,h3⟩:=hc i v e
  refine⟨v',?_,h2.mono (iset_le _ hn),h3⟩
  rw[cell_of_row _ _ _ _ _ _ (heap_alloc_new w _)]
  simpa using h1
theorem HR.grow(h:HR P base ι C w){y:Nat}{cs ys ys':List Value}{ty:TypeId}{t:Tgt}(hy:C y=.rows cs ty true)(ht:ι y=some t)(hn:ι n=none)(hyn:y≠n){cur:Array Value}(hcur:w.heap[t.block]? = some (.cells cur ty (0,0)))
  (hv:VRs ι ys ys') (hone:ys.all one=true) (hfit:t.off+cs.length+ys.length≤cur.size) :
  HR P base (iset ι n ⟨t.block,t.off,true,t.esz,t.bsize⟩) (hset (hset C y (.rows cs ty false)) n (.rows (cs++ys) ty true))
   (w.setRow t.block (cur.toList.take (t.off+cs.length)++ys'++cur.toList.drop (t.off+cs.length+ys'.length)).toArray):=by
 obtain⟨t2,ht2,hown,hcell,hesz,⟨hbs,hal⟩,cur2,hcur2,hcsz⟩:ObjOK P ι w y (.rows cs ty true):=hy ▸ h.obj y
 rw[ht]at ht2
 cases ht2
 rw[hcur]at hcur2
 cases hcur2
 have hU:=h.untop hy
 have hle:=iset_le (ι:=ι) ⟨t.block,t.off,true,t.esz,t.bsize⟩ hn
 have hyl:ys'.length=ys.length:=hv.1.symm
 have hL:(cur.toList.take (t.off+cs.length)++ys'++cur.toList.drop (t.off+cs.length+ys'.length)).length=cur.size:=by
  have:=Array.length_toList (xs:=cur)
  simp only[List.length_append,List.length_take,List.length_drop];omega
 have hnew:=setRow_heap w t.block cur (cur.toList.take (t.off+cs.length)++ys'++cur.toList.drop (t.off+cs.length+ys'.length)).toArray ty (0,0) hcur
 have hget:∀i,(cur.toList.take (t.off+cs.length)++ys'++cur.toList.drop (t.off+cs.length+ys'.length)).toArray[i]? = if t.off+cs.length≤i∧i<t.off+cs.length+ys'.length then ys'[i - (t.off+cs.length)]? else cur[i]?:=fun i=>by
  have:=row_get cur.toList ys' (t.off+cs.length) (by have:=Array.length_toList (xs:=cur);omega) i
  simp only[List.getElem?_toArray]
  rw[this]
  simp
 have low:∀i,i<t.off+cs.length→(w.setRow t.block (cur.toList.take (t.off+cs.length)++ys'++cur.toList.drop (t.off+cs.length+ys'.length)).toArray).cell? ⟨t.block,i,none⟩=w.cell? ⟨t.block,i,none⟩:=fun i hi=>by
  rw[cell_of_row _ _ _ _ _ _ hnew,cell_of_row _ _ _ _ _ _ hcur,hget,if_neg (by omega)]
 have share:∀z u,z≠y→C z≠.dead→ι z=some u→u.block=t.block→∃ds ty' , C z=.rows ds ty' false∧u.off+ds.length≤t.off+cs.length:=by
  intro z u hz hd ez hb
  rcases h.inj y z t u (by rw[hy];intro e;cases e) hd ht ez hown hb.symm with e|⟨_,hr⟩
  ·exact absurd e.symm hz
  ·cases hc:C z with
   | rows ds ty' b =>
    rcases h.last z y u t ds ty' b cs ty hc hy ez ht hb with e|⟨rfl,hl⟩
    ·exact absurd e hz
    ·exact⟨ds,ty',rfl,hl⟩
   | _=>rw[hc]at hr;exact hr.elim
 have hUy:hset C y (.rows cs ty false) y=.rows cs ty false:=hset_same _ _ _
 refine⟨fun z=>?_,fun z q a b hz hq ez eq ho hb=>?_,fun z a e=>?_,by rw[setRow_size];exact h.size,fun g hg=>hle g _ (h.gl g hg),fun z q a b as ta f bs tb hz hq ez eq hb=>?_⟩
 ·by_cases e1:z=n
  ·subst e1
   rw[hset_same]
   refine⟨_,iset_same _ _ _,rfl,fun i v e=>?_,hesz,⟨by simp only[List.length_append];omega,hal⟩,_,hnew,by rw[List.size_toArray,hL];exact hcsz⟩
   simp only
   rw[cell_of_row _ _ _ _ _ _ hnew,hget]
   by_cases hi:i<cs.length
   ·rw[if_neg (by omega)]
    rw[List.getElem?_append_left hi]at e
    obtain⟨v',q1,q2,q3⟩:=hcell i v e
    rw[cell_of_row _ _ _ _ _ _ hcur]at q1
    exact⟨v',q1,q2.mono hle,q3⟩
   ·rw[List.getElem?_append_right (by omega)]at e
    have hil:=(List.getElem?_eq_some_iff.1 e).1
    rw[if_pos (by omega)]
    obtain⟨v',q1,q2⟩:=hv.get e
    exact⟨v',by rw[show t.off+i - (t.off+cs.length)=i - cs.length by omega];exact q1,q2.mono hle,List.all_eq_true.1 hone v (List.mem_of_getElem? e)⟩
  ·rw[hset_other _ _ e1]
   by_cases e2:z=y
   ·subst e2
    rw[hset_same]
    refine⟨t,hle _ _ ht,hown,fun i v e=>?_,hesz,⟨hbs,hal⟩,_,hnew,by rw[List.size_toArray,hL];exact hcsz⟩
    obtain⟨v',q1,q2,q3⟩:=hcell i v e
    have hil:=(List.getElem?_eq_some_iff.1 e).1
    exact⟨v',by rw[low _ (by omega)];exact q1,q2.mono hle,q3⟩
   ·rw[hset_other _ _ e2]
    by_cases hd:C z=.dead
    ·rw[hd];trivial
    ·obtain⟨u,ez⟩:=(h.obj z).tgt hd
     by_cases hb:u.block=t.block
     ·obtain⟨ds,ty',hc,hl⟩:=share z u e2 hd ez hb
      have hob:=h.obj z
      rw[hc]at hob ⊢
      obtain⟨u2,hu2,hou,hcu,b1,b2,cu,b3,b4⟩:=hob
      rw[ez]at hu2
      cases hu2
      rw[hb,hcur]at b3
      cases b3
      refine⟨u,hle _ _ ez,hou,fun i v e=>?_,b1,b2,_,by rw[hb];exact hnew,by rw[List.size_toArray,hL];exact b4⟩
      obtain⟨v',q1,q2,q3⟩:=hcu i v e
      have hil:=(List.getElem?_eq_some_iff.1 e).1
      rw[hb]at q1 ⊢
      exact⟨v',by rw[low _ (by omega)];exact q1,q2.mono hle,q3⟩
     ·refine(h.obj z).carry hle fun a ea=>?_
      rw[ez]at ea
      cases ea
      exact setRow_other w _ _ _ hb
 ·by_cases e1:z=n
  ·by_cases e2:q=n
   ·exact .inl (by rw[e1,e2])
   ·right
    rw[e1,iset_same]at ez
    cases ez
    rw[iset_other _ _ e2]at eq
    rw[hset_other _ _ e2]at hq ⊢
    refine⟨by rw[e1,hset_same];trivial,?_⟩
    by_cases e3:q=y
    ·rw[e3,hset_same];trivial
    ·rw[hset_other _ _ e3]at hq ⊢
     obtain⟨ds,ty',hc,_⟩:=share q b e3 hq eq hb.symm
     rw[hc];trivial
  ·rw[iset_other _ _ e1]at ez
   rw[hset_other _ _ e1]at hz ⊢
   by_cases e2:q=n
   ·right
    rw[e2,iset_same]at eq
    cases eq
    refine⟨?_,by rw[e2,hset_same];trivial⟩
    by_cases e3:z=y
    ·rw[e3,hset_same];trivial
    ·rw[hset_other _ _ e3]at hz ⊢
     obtain⟨ds,ty',hc,_⟩:=share z a e3 hz ez hb
     rw[hc];trivial
   ·rw[iset_other _ _ e2]at eq
    rw[hset_other _ _ e2]at hq ⊢
    exact hU.inj z q a b hz hq ez eq ho hb
 ·by_cases e1:z=n
  ·rw[e1,iset_same]at e
   cases e
   obtain⟨q1,q2,_⟩:=h.rng y t ht
   exact⟨by rw[setRow_size];exact q1,fun _=>q2 hown,fun k=>by cases k⟩
  ·rw[iset_other _ _ e1]at e
   rw[setRow_size]
   exact h.rng z a e
 ·by_cases e2:q=n
  ·rw[e2,iset_same]at eq
   cases eq
   rw[e2,hset_same]at hq
   cases hq
   by_cases e1:z=n
   ·exact .inl (by rw[e1,e2])
   ·right
    rw[iset_other _ _ e1]at ez
    rw[hset_other _ _ e1]at hz
    simp only[List.length_append]
    by_cases e3:z=y
    ·rw[e3,hset_same]at hz
     cases hz
     rw[e3,ht]at ez
     cases ez
     exact⟨rfl,by omega⟩
    ·rw[hset_other _ _ e3]at hz
     obtain⟨ds,ty',hc,hl⟩:=share z a e3 (by rw[hz];intro e;cases e) ez hb
     rw[hz]at hc
     cases hc
     exact⟨rfl,by omega⟩
  ·rw[iset_other _ _ e2]at eq
   rw[hset_other _ _ e2]at hq
   by_cases e3:q=y
   ·rw[e3,hset_same]at hq;cases hq
   ·have hq':=hq
    rw[hset_other _ _ e3]at hq'
    by_cases e1:z=n
    ·rw[e1,iset_same]at ez
     cases ez
     obtain⟨ds,ty',hc,_⟩:=share q b e3 (by rw[hq'];intro e;cases e) eq hb.symm
     rw[hq']at hc
     cases hc
    ·rw[iset_other _ _ e1]at ez
     rw[hset_other _ _ e1]at hz
     exact hU.last z q a b as ta f bs tb hz hq ez eq hb
theorem grow_sound (hR : HR P base ι C w) {ts : Array TypeId} {ty : TypeId} {s s' x x' : Value} {r : Res} (h : agrow P n H ts s x = some r) (hs : VR ι s s') (hx : VR ι x x')
    (hrd : ∀ x ∈ r.rd, ι x ≠ none → C x = H x) (hwr : ∀ x o, r.wr = some (x, o) → ι x ≠ none → C x = H x) (hn : r.news ≠ [] → ι n = none ∧ H n = .dead) :
    Good P base ι C H n r w ((do pure (Next.value (← Builtin.append_ ts ty #[s', x'])) : Sem Next).run P w) := by
  unfold agrow at h
  split at h
  case h_2 => cases h
  rename_i t u h0 h1
  split at h
  case h_2 => cases h
  rename_i elem ht
  split at h
  case h_2 => cases h
  rename_i j zs du hj hzs hdu
  split at h
  case isTrue => cases h
  rename_i hcond
  simp only [not_or, Nat.not_lt, Decidable.not_not, Bool.not_eq_false] at hcond
  obtain ⟨hby, hjs, hzl, hduo⟩ := hcond
  obtain ⟨i, z, hi, hz, rfl, hf⟩ := zero_spec hzs
  rw [hj] at hi
  cases hi
  have hzs' : z.cells.size = j.size := by simpa using hzl
  have hjp : 0 < j.size := Nat.pos_of_ne_zero hjs
  have hcof : P.cellsOf elem = j.size := by simp [Program.cellsOf, hj]
  split at h
  case h_2 => cases h
  rename_i ys rd m hsrc
  split at h
  · -- nil
    cases hs with
    | sliceNil =>
      split at h
      case isTrue => cases h
      rename_i hbig
      cases h
      obtain ⟨ys', hv, hone, hyl, hlen, hfc⟩ := src_spec hR hsrc hx hrd hjp
      obtain ⟨g1, g2⟩ := hn (by simp)
      have hrun := run_append_grow' (P := P) (ty := ty) (olds := []) h0 h1 ht hdu hduo hj hz (rfl : Value.slice none 0 0 = .slice none 0 0) hlen (hfc w.drew rfl) (by simp [Builtin.firstCells, loadCells, loadCellsFrom]) (by omega) (by omega) hby
      simp only [Nat.zero_add] at hrun
      have hge := grownCap_ge w m 0 elem
      have hle := grownCap_le_maxLen w m 0 elem (by have : m ≤ 34359738368 := by have h3 : ¬ m > bigN := fun h => hbig (.inl h)
                                                                                 simpa [bigN] using h3
                                                    unfold maxLen; omega)
      have hcsz : ((([] : List Value).toArray ++ ys'.toArray ++ Builtin.zeroCells z.cells (grownCap w m 0 elem - m)) : Array Value).size = grownCap w m 0 elem * j.size := by
        have h2 : ys'.length = m * j.size := by rw [← hyl, hv.1]
        simp only [Array.size_append, List.size_toArray, List.length_nil, Nat.zero_add, size_zeroCells, hzs', h2, ← Nat.add_mul]
        congr 1; omega
      refine ⟨_, _, iset ι n ⟨w.heap.size, 0, true, P.cellsOf elem, (([] : List Value).toArray ++ ys'.toArray ++ Builtin.zeroCells z.cells (grownCap w m 0 elem - m)).size⟩, _, run_value hrun, .inl rfl, ?_, iset_le _ g1, fun q hq => ?_, ?_, ?_, fun _ _ e => (by cases e), fun _ => by simp [iset_same]⟩
      · exact .slice n 0 m 0 _ _ (iset_same _ _ _) (fun _ => rfl) hge hle (fun _ => ⟨by simp only [hcof, Nat.zero_add]; exact Nat.le_of_eq hcsz.symm, Nat.zero_mod _⟩)
      · rcases hq with hq | hq
        · exact iset_other _ _ hq
        · cases hq
      · rw [heap_new, patch_set (.inr (by rw [g2]; intro e; cases e))]
        refine (hR.same (w' := w.drew) rfl).allocR g1 ?_ ?_
        · intro q v e
          obtain ⟨v', e1, e2⟩ := hv.get e
          refine ⟨v', ?_, e2, List.all_eq_true.1 hone v (List.mem_of_getElem? e)⟩
          have hq : q < ys'.length := by
            rcases Nat.lt_or_ge q ys'.length with g | g
            · exact g
            · rw [List.getElem?_eq_none g] at e1; cases e1
          simp only [Array.empty_append]
          rw [Array.getElem?_append_left (by simpa using hq)]
          simpa using e1
        · rw [hcsz, hyl]; exact Nat.mul_le_mul_right _ hge
      · exact (Below.refl _ _).drew.alloc hR.size _
  · rename_i y len cc
    split at h
    case h_2 => cases h
    rename_i cs ety hy
    split at h
    case isFalse => cases h
    rename_i hc2
    obtain ⟨hbig, hfull, hl0, hm0, hety, hnr⟩ := hc2
    subst hety
    cases h
    obtain ⟨ys', hv, hone, hyl, hlen, hfc⟩ := src_spec hR hsrc hx hrd hjp
    obtain ⟨g1, g2⟩ := hn (by simp)
    have hyl' : ys'.length = m * j.size := by rw [← hyl, hv.1]
    cases hs with
    | sliceE _ _ a t' ht' how =>
      have hC := hwr y _ rfl (by simp [ht'])
      have hob := hR.obj y
      rw [hC, hy] at hob
      obtain ⟨t2, h2, hto, _⟩ := hob
      rw [ht'] at h2
      cases h2
      rw [how] at hto
      cases hto
    | slice _ _ _ o c t' ht' ho hc hm how =>
      have hC := hwr y _ rfl (by simp [ht'])
      have hCr : C y = .rows cs ety true := hC.trans hy
      obtain ⟨t2, h2, hto, hcell, hesz, ⟨hbs, hal⟩, cur, hcur, hcsz⟩ : ObjOK P ι w y (.rows cs ety true) := hCr ▸ hR.obj y
      rw [ht'] at h2
      cases h2
      have hyn : y ≠ n := by intro e; subst e; rw [ht'] at g1; cases g1
      obtain ⟨hcap, hmd⟩ := how hto
      rw [hesz, hcof] at hcap
      have hoff : o = t'.off := by have := ho hl0; simpa using this
      subst hoff
      obtain ⟨ol, holl, holv, holc⟩ := cells_list hcell 0 cs.length (by omega)
      simp only [List.drop_zero, List.take_length, Nat.add_zero] at holv holc
      have hone2 : (cs ++ ys).all one = true := by
        rw [List.all_append, Bool.and_eq_true]; exact ⟨one_list hcell, hone⟩
      by_cases hroom : len + m ≤ c
      · have hmul : (len + m) * j.size ≤ c * j.size := Nat.mul_le_mul_right _ hroom
        rw [Nat.add_mul] at hmul
        have hrun := run_append_room' (P := P) (ty := ty) (o := t'.off) (sLen := len) (sCap := c) h0 h1 ht hdu hduo hj hlen (hfc w rfl) hcur hroom (by rw [hyl', hcsz]; omega) (hv.all_one hone)
        have htn : iset ι n ⟨t'.block, t'.off, true, t'.esz, t'.bsize⟩ n = some ⟨t'.block, t'.off, true, t'.esz, t'.bsize⟩ := iset_same _ _ _
        refine ⟨_, _, iset ι n ⟨t'.block, t'.off, true, t'.esz, t'.bsize⟩, _, run_value hrun, .inl rfl, ?_, iset_le _ g1, fun q hq => ?_, ?_, ?_, fun z ob e => by (cases e; simp [ht']), fun _ => by simp [iset_same]⟩
        · exact .slice n 0 (len + m) t'.off c ⟨t'.block, t'.off, true, t'.esz, t'.bsize⟩ htn (fun _ => rfl) hroom hm (fun _ => ⟨by rw [hesz, hcof]; exact hcap, hmd⟩)
        · rcases hq with hq | hq
          · exact iset_other _ _ hq
          · cases hq
        · show HR P base _ (patch C H (hset (hset H y (.rows cs ety false)) n _)) _
          rw [patch_set2 hyn (.inl hC) (by rw [g2]; intro e; cases e), hfull]
          exact hR.grow hCr ht' g1 hyn hcur hv hone (by rw [hyl, hcsz]; omega)
        · exact below_setRow (Below.refl _ _) ((hR.rng y t' ht').2.1 hto) _
      · have hold : (Builtin.firstCells j.size len (.slice (some ⟨t'.block, t'.off, none⟩) len c)).run P w.drew = .ok ol.toArray w.drew := by
          exact run_firstCells_some w.drew j.size len _ len c ol (by rw [holl, hfull]) (fun q v e => by simpa using holc q v e)
        have hrun := run_append_grow' (P := P) (ty := ty) (olds := ol) h0 h1 ht hdu hduo hj hz (rfl : Value.slice (some ⟨t'.block, t'.off, none⟩) len c = _) hlen (hfc w.drew rfl) hold (by omega) hbig hby
        have hge := grownCap_ge w (len + m) c ety
        have hle := grownCap_le_maxLen w (len + m) c ety (by have : len + m ≤ 34359738368 := hbig
                                                             unfold maxLen; omega)
        have hcz : ((ol.toArray ++ ys'.toArray ++ Builtin.zeroCells z.cells (grownCap w (len + m) c ety - (len + m))) : Array Value).size = grownCap w (len + m) c ety * j.size := by
          simp only [Array.size_append, List.size_toArray, size_zeroCells, hzs', hyl', holl, ← hfull, ← Nat.add_mul]
          congr 1; omega
        have hvv : VRs ι (cs ++ ys) (ol ++ ys') := holv.append hv
        refine ⟨_, _, iset ι n ⟨w.heap.size, 0, true, P.cellsOf ety, (ol.toArray ++ ys'.toArray ++ Builtin.zeroCells z.cells (grownCap w (len + m) c ety - (len + m))).size⟩, _, run_value hrun, .inl rfl, ?_, iset_le _ g1, fun q hq => ?_, ?_, ?_, fun z ob e => by (cases e; simp [ht']), fun _ => by simp [iset_same]⟩
        · exact .slice n 0 (len + m) 0 _ _ (iset_same _ _ _) (fun _ => rfl) hge hle (fun _ => ⟨by simp only [hcof, Nat.zero_add]; exact Nat.le_of_eq hcz.symm, Nat.zero_mod _⟩)
        · rcases hq with hq | hq
          · exact iset_other _ _ hq
          · cases hq
        · show HR P base _ (patch C H (hset (hset H y (.rows cs ety false)) n _)) _
          rw [patch_set2 hyn (.inl hC) (by rw [g2]; intro e; cases e)]
          refine ((hR.untop hCr).same (w' := w.drew) rfl).allocR g1 ?_ ?_
          · intro q v e
            obtain ⟨v', e1, e2⟩ := hvv.get e
            refine ⟨v', ?_, e2, List.all_eq_true.1 hone2 v (List.mem_of_getElem? e)⟩
            have hq : q < (ol ++ ys').length := by
              rcases Nat.lt_or_ge q (ol ++ ys').length with g | g
              · exact g
              · rw [List.getElem?_eq_none g] at e1; cases e1
            rw [Array.getElem?_append_left (by simpa using hq)]
            simpa using e1
          · rw [hcz]
            have : (cs ++ ys).length = (len + m) * j.size := by
              rw [List.length_append, ← hfull, hyl, ← Nat.add_mul]
            rw [this]; exact Nat.mul_le_mul_right _ hge
        · exact (Below.refl _ _).drew.alloc hR.size _
  · cases h
end
end Go.AM
namespace Go.AM
open Go.RowKit
section
variable {P:Program} {base:Nat} {ι:Inj} {C H:Heap} {n:Nat} {w:World}
theorem asnil_sound (hR : HR P base ι C w) {ρ ρ' : Operand → Value} {o : Oper} {r : Res} (h : asnil P ρ o.op = some r) (hρ : ∀ x ∈ o.op.operands, VR ι (ρ x) (ρ' x)) (hcn : ρ' (.const (.slice none 0 0)) = .slice none 0 0) :
    Good P base ι C H n r w ((execOp ρ' o).run P w) := by
  unfold asnil at h
  split at h
  case h_2 => cases h
  rename_i op t x u ho
  have hv := hρ x (by rw [ho]; simp [Op.operands])
  have rest : ∀ (e : TypeId) (y : Value) (b : Bool), P.underlying t = some (.slice e) → ρ' x = y → (∀ d, (Op.equalIn (d + 1) t y (.slice none 0 0)).run P w = .ok b w) → (∀ op (u v : Operand), (eqGuard op t u v y (.slice none 0 0)).run P w = .ok () w) →
      ((op = .eql ∧ r = { v := .bool b }) ∨ (op = .neq ∧ r = { v := .bool (!b) })) → Good P base ι C H n r w ((execOp ρ' o).run P w) := by
    intro e y b hu hx' hg e3 h
    have hq := hg 9999
    have e1 : (binOp .eql t y (.slice none 0 0)).run P w = .ok (.bool b) w := by
      simp only [binOp]
      simp [Op.equal, Op.maxDepth, hq]
    have e2 : (binOp .neq t y (.slice none 0 0)).run P w = .ok (.bool (!b)) w := by
      simp only [binOp]
      simp [Op.equal, Op.maxDepth, hq]
    rcases h with ⟨rfl, rfl⟩ | ⟨rfl, rfl⟩
    · exact good_value hR (by simp [execOp, ho, hx', hcn, e1, e3]) (.bool _)
    · exact good_value hR (by simp [execOp, ho, hx', hcn, e2, e3]) (.bool _)
  split at h
  · rename_i hu hx
    rw [hx] at hv
    obtain ⟨a', m', c', hx'⟩ : ∃ a' m' c', ρ' x = .slice (some a') m' c' := by
      generalize ρ' x = y at hv
      cases hv with
      | slice => exact ⟨_, _, _, rfl⟩
      | sliceA => exact ⟨_, _, _, rfl⟩
      | sliceE => exact ⟨_, _, _, rfl⟩
    refine rest _ _ false hu hx' (fun d => by simp only [Op.equalIn]; simp [run_underlying hu]) (fun op u v => by cases op <;> simp [eqGuard]) ?_
    split at h
    · cases h; exact .inl ⟨rfl, rfl⟩
    · cases h; exact .inr ⟨rfl, rfl⟩
    · cases h
  · rename_i hu hx
    rw [hx] at hv
    have hx' : ρ' x = .slice none 0 0 := by
      generalize ρ' x = y at hv
      cases hv with
      | sliceNil => rfl
    refine rest _ _ true hu hx' (fun d => by simp only [Op.equalIn]; simp [run_underlying hu]) (fun op u v => by cases op <;> simp [eqGuard]) ?_
    split at h
    · cases h; exact .inl ⟨rfl, rfl⟩
    · cases h; exact .inr ⟨rfl, rfl⟩
    · cases h
  · cases h
theorem flat_sound(hR:HR P base ι C w){ρ ρ':Operand→Value}{o:Oper}{r:Res}(h:aflat P ρ o=some r)(hs:∀cs b,o.op≠.select cs b)
  (hρ:∀x∈o.op.operands,VR ι (ρ x) (ρ' x)) (hcn:ρ' (.const (.slice none 0 0))=.slice none 0 0):Good P base ι C H n r w ((execOp ρ' o).run P w):=by
 unfold aflat at h
 split at h
 case isFalse=>exact asnil_sound hR h hρ hcn
 rename_i hf
 split at h
 case h_2=>cases h
 rename_i v hv
 split at h
 case isFalse=>cases h
 rename_i hfv
 cases h
 have he:execOp ρ o=execOp ρ' o:=execOp_congr o hs fun x hx=>by
  unfold opFlat at hf
  rw[Array.all_eq_true]at hf
  obtain⟨i,hi,rfl⟩:=Array.getElem_of_mem hx
  exact(flat_eq (hf i hi) (hρ _ hx)).symm
 rw[←he]
 exact good_value hR (pureRun_run _ hv w) (flat_refl ι hfv)
theorem VRs_map{ρ ρ':Operand→Value}{l:List Operand}(h:∀x∈l,VR ι (ρ x) (ρ' x)):VRs ι (l.map ρ) (l.map ρ'):=by
 induction l with
 | nil=>exact .nil ι
 | cons x l ih=>exact .cons (h x (by simp)) (ih fun y hy=>h y (by simp[hy]))
theorem VRs_parts{ρ ρ':Operand→Value}{ps:List (Nat × Operand)}(h:∀x∈ps.map (·.2),VR ι (ρ x) (ρ' x)) :
  VRs ι ((ps.map fun(i,x)=>(i,ρ x)).map (·.2)) ((ps.map fun(i,x)=>(i,ρ' x)).map (·.2)):=by
 have:=VRs_map (ι:=ι) h
 simpa [List.map_map,Function.comp_def] using this
theorem good_ok{x:Option Value}{r:Res}{res:Result Next}(h:ok x=some r)(k:∀v,x=some v→Good P base ι C H n { v:=v } w res):Good P base ι C H n r w res:=by
 unfold ok at h
 obtain⟨v,hv,rfl⟩:=Option.map_eq_some_iff.1 h
 exact k v hv
theorem run_equalIn_ptr(d:Nat){t e:TypeId}(a:Addr)(ht:P.underlying t=some (.pointer e)) :
  (Op.equalIn (d+1) t (.pointer (some a)) (.pointer none)).run P w=.ok false w∧(Op.equalIn (d+1) t (.pointer none) (.pointer (some a))).run P w=.ok false w:=by
 constructor <;> simp[Op.equalIn,run_underlying ht]
theorem eqNil_run{t:TypeId}{x y x' y':Value}{b:Bool}(h:aeqNil P t x y=some b)(hx:VR ι x x')(hy:VR ι y y') :
  (binOp .eql t x' y').run P w=.ok (.bool b) w∧(binOp .neq t x' y').run P w=.ok (.bool (!b)) w∧(∀op (u v:Operand),(eqGuard op t u v x' y').run P w=.ok () w):=by
 unfold aeqNil at h
 split at h
 ·rename_i ht
  cases h
  cases hx;cases hy
  refine⟨?_,?_,fun op u v=>?_⟩
  ·simp only[binOp]
   simp[Op.equal,Op.maxDepth,(run_equalIn_ptr (w:=w) 9999 _ ht).1]
  ·simp only[binOp]
   simp[Op.equal,Op.maxDepth,(run_equalIn_ptr (w:=w) 9999 _ ht).1]
  ·cases op <;> simp[eqGuard]
 ·rename_i ht
  cases h
  cases hx;cases hy
  refine⟨?_,?_,fun op u v=>?_⟩
  ·simp only[binOp]
   simp[Op.equal,Op.maxDepth,(run_equalIn_ptr (w:=w) 9999 _ ht).2]
  ·simp only[binOp]
   simp[Op.equal,Op.maxDepth,(run_equalIn_ptr (w:=w) 9999 _ ht).2]
  ·cases op <;> simp[eqGuard]
 ·rename_i e x k y l ht
  split at h
  case h_2=>cases h
  rename_i j hj
  split at h
  case isFalse=>cases h
  rename_i hc
  obtain⟨rfl,hjs⟩:=hc
  cases h
  cases hx with
  | ptr _ _ t1 h1 =>
   cases hy with
   | ptr _ _ t2 h2 =>
    rw[h1]at h2
    cases h2
    have he:((⟨t1.block,t1.off+k,none⟩:Addr) == ⟨t1.block,t1.off+l,none⟩)=decide (k=l):=by
     by_cases hkl:k=l
     ·subst hkl;simp
     ·simp[hkl]
    have hg:∀d,(Op.equalIn (d+1) t (.pointer (some ⟨t1.block,t1.off+k,none⟩)) (.pointer (some ⟨t1.block,t1.off+l,none⟩))).run P w=.ok (decide (k=l)) w:=by
     intro d
     simp only[Op.equalIn]
     simp[run_underlying ht,sizeOf,typeInfo,hj,hjs,sameAddr,he]
    have hr:=hg 9999
    refine⟨?_,?_,fun op u v=>?_⟩
    ·simp only[binOp]
     simp[Op.equal,Op.maxDepth,hr]
    ·simp only[binOp]
     simp[Op.equal,Op.maxDepth,hr]
    ·cases op <;> simp[eqGuard]
 ·cases h
theorem nan_cut(t:Nat):isNaNw ((t % 2)*2 ^ 63+0x7ff0000000000000+1+(t / 2) % (2 ^ 52 - 1)):=by
 have hr:(t / 2) % (2 ^ 52 - 1)<2 ^ 52 - 1:=Nat.mod_lt _ (by decide)
 generalize (t / 2) % (2 ^ 52 - 1)=r at hr
 have h2:t % 2<2:=Nat.mod_lt _ (by decide)
 generalize t % 2=s at h2
 refine⟨by omega,?_⟩
 unfold Ieee.Format.read
 have hsw:Ieee.Format.signWeight Ieee.double=2 ^ 63:=rfl
 have hbin:Ieee.Format.binade Ieee.double=2 ^ 52:=rfl
 have hinf:Ieee.Format.infRung Ieee.double=2047*2 ^ 52:=rfl
 simp only[hsw,hbin,hinf]
 have hm:(s*2 ^ 63+0x7ff0000000000000+1+r) % 2 ^ 63=0x7ff0000000000000+1+r:=by omega
 rw[hm,if_neg (by omega),if_neg (by omega),if_neg (by omega)]
 rfl
theorem nan_read{b:Nat}(h:isNaNw b):∃s f,Ieee.double.read b=.nan s f:=by
 obtain⟨_,h⟩:=h
 cases hb:Ieee.double.read b with
 | nan s f=>exact⟨s,f,rfl⟩
 | number s m e=>rw[hb]at h;cases h
 | infinity s=>rw[hb]at h;cases h
theorem fop_nan {op : BinOp} {a b : Nat} (ho : (fop op 0 0).isSome = true) (h : isNaNw a ∨ isNaNw b) : fop op a b = some none := by
  rcases h with h | h <;> obtain ⟨s, f, e⟩ := nan_read h <;> cases op <;> first
    | (cases ho; done)
    | (simp only [fop, Ieee.Format.add, Ieee.Format.sub, Ieee.Format.mul, Ieee.Format.div, e]
       first | rfl | (cases Ieee.double.read a <;> rfl))
theorem nan_run{op:BinOp}{t:TypeId}{x y x' y' v:Value}(h:anan P op t x y=some v)(hx:VR ι x x')(hy:VR ι y y') :
  v=nanV∧∃b,isNaNw b∧∀u q,(do eqGuard op t u q x' y';binOp op t x' y':Sem Value).run P w=.ok (.float .f64 b) w.drew:=by
 have key:∀a b,fop op a b=some none→∃r,isNaNw r∧∀u q,(do eqGuard op t u q (.float .f64 a) (.float .f64 b);binOp op t (.float .f64 a) (.float .f64 b):Sem Value).run P w=.ok (.float .f64 r) w.drew:=by
  intro a b hf
  refine⟨_,nan_cut (w.tape w.drawn (.nanBits .f64 a b)),fun u q=>?_⟩
  cases op <;> simp only[fop,Option.some.injEq]at hf <;> first
   | (cases hf;done)
   | (simp[eqGuard,binOp,Op.floatArith,FloatKind.format,hf,Question.forced,Question.cut])
 unfold anan at h
 split at h
 case h_2=>cases h
 split at h
 ·rename_i a b
  split at h
  case h_2=>cases h
  rename_i hf
  cases h
  cases hx;cases hy
  exact⟨rfl,key a b hf⟩
 ·rename_i x y hxy
  split at h
  case isFalse=>cases h
  rename_i hc
  simp only[Bool.and_eq_true]at hc
  obtain⟨⟨h1,h2⟩,h3⟩:=hc
  cases h
  refine⟨rfl,?_⟩
  have inv:∀{x x':Value},VR ι x x'→isF x=true→∃a,x'=.float .f64 a∧(x=.float .f64 a∨(x=nanV∧isNaNw a)):=by
   intro x x' r hf
   cases r <;> (try (simp[isF]at hf;done))
   ·rename_i k b
    cases k
    ·simp[isF]at hf
    ·exact⟨b,rfl,.inl rfl⟩
   ·rename_i b hb;exact⟨b,rfl,.inr ⟨rfl,hb⟩⟩
  obtain⟨a,rfl,ha⟩:=inv hx h1
  obtain⟨b,rfl,hb⟩:=inv hy h2
  refine key a b (fop_nan h3 ?_)
  rcases ha with rfl|⟨rfl,ha⟩
  ·rcases hb with rfl|⟨rfl,hb⟩
   ·exact absurd rfl (hxy a b rfl)
   ·exact .inr hb
  ·exact .inl ha
theorem run_indexByte (s : ByteArray) (c : Int) : (Extern.BytealgIndexByte.indexByte #[.string s, .int .u8 c]).run P w = .ok (.int .i64 (indexB s c)) w := by
  have h : Extern.BytealgIndexByte.indexByte #[.string s, .int .u8 c] = (match (List.range s.size).find? fun i => s[i]! == UInt8.ofNat c.toNat with
      | some i => (pure (goInt i) : Sem Value)
      | none => pure (goInt (-1))) := rfl
  rw [h]
  unfold indexB
  cases (List.range s.size).find? fun i => s[i]! == UInt8.ofNat c.toNat <;> rfl
theorem ext_run {g : FuncId} {args args' : List Value} {v : Value} (h : aext P g args = some v) (hv : VRs ι args args') :
    ∃ v', (callFunc g args'.toArray).run P w = .ok (.value v') w ∧ VR ι v v' := by
  unfold aext at h
  split at h
  case h_2 => cases h
  rename_i fn hfn
  split at h
  case isFalse => cases h
  rename_i hc
  simp only [Bool.and_eq_true, Option.isNone_iff_eq_none, beq_iff_eq] at hc
  obtain ⟨hb, ho⟩ := hc
  have hnext : ∀ s : String, fn.name = s → Extern.allNextRows.lookup s = none → Extern.findNext fn = none := by
    intro s hs h1
    have h2 : Extern.allNextRows.lookup "" = none := by kernel_rfl
    unfold Extern.findNext
    simp only [hs, ho, h1, h2]
    rfl
  split at h
  · rename_i b
    split at h
    case isFalse => cases h
    rename_i hn
    simp only [Bool.or_eq_true, beq_iff_eq] at hn
    cases h
    obtain ⟨u, k, rfl, r1, r2⟩ := hv.cons_inv
    cases r1
    rw [r2.nil_inv]
    refine ⟨_, ?_, flat_refl ι rfl⟩
    rcases hn with hn | hn
    · have hfind : Extern.find fn = some Extern.MathFloatBits.float64bits := by
        unfold Extern.find
        simp only [hn, ho]
        kernel_rfl
      rw [run_callFunc_extern (e := Extern.MathFloatBits.float64bits) hfn (by rw [hn]; kernel_rfl) (by rw [hb]; rfl) (hnext _ hn (by kernel_rfl)) hfind]
      rfl
    · have hfind : Extern.find fn = some Extern.MathFloatBits.float64bits := by
        unfold Extern.find
        simp only [hn, ho]
        kernel_rfl
      rw [run_callFunc_extern (e := Extern.MathFloatBits.float64bits) hfn (by rw [hn]; kernel_rfl) (by rw [hb]; rfl) (hnext _ hn (by kernel_rfl)) hfind]
      rfl
  · rename_i b
    split at h
    case isFalse => cases h
    rename_i hn
    simp only [beq_iff_eq] at hn
    cases h
    obtain ⟨u, k, rfl, r1, r2⟩ := hv.cons_inv
    cases r1
    rw [r2.nil_inv]
    refine ⟨_, ?_, flat_refl ι rfl⟩
    have hfind : Extern.find fn = some Extern.MathFloatBits.float64frombits := by
      unfold Extern.find
      simp only [hn, ho]
      kernel_rfl
    rw [run_callFunc_extern (e := Extern.MathFloatBits.float64frombits) hfn (by rw [hn]; kernel_rfl) (by rw [hb]; rfl) (hnext _ hn (by kernel_rfl)) hfind]
    rfl
  · rename_i y k
    split at h
    case isFalse => cases h
    rename_i hn
    simp only [beq_iff_eq] at hn
    cases h
    obtain ⟨u, kk, rfl, r1, r2⟩ := hv.cons_inv
    refine ⟨u, ?_, r1⟩
    cases r1
    rw [r2.nil_inv]
    have hfind : Extern.find fn = some Extern.AbiNoEscape.same := by
      unfold Extern.find
      simp only [hn, ho]
      kernel_rfl
    rw [run_callFunc_extern (e := Extern.AbiNoEscape.same) hfn (by rw [hn]; kernel_rfl) (by rw [hb]; rfl) (hnext _ hn (by kernel_rfl)) hfind]
    rfl
  · rename_i s c
    split at h
    case isFalse => cases h
    rename_i hn
    simp only [beq_iff_eq] at hn
    cases h
    obtain ⟨u, k, rfl, r1, r2⟩ := hv.cons_inv
    obtain ⟨u2, k2, rfl, r3, r4⟩ := r2.cons_inv
    cases r1
    cases r3
    rw [r4.nil_inv]
    refine ⟨_, ?_, flat_refl ι rfl⟩
    have hfind : Extern.find fn = some Extern.BytealgIndexByte.indexByte := by
      unfold Extern.find
      simp only [hn, ho]
      kernel_rfl
    rw [run_callFunc_extern (e := Extern.BytealgIndexByte.indexByte) hfn (by rw [hn]; kernel_rfl) (by rw [hb]; rfl) (hnext _ hn (by kernel_rfl)) hfind]
    rw [run_indexByte]
    rfl
  · cases h
theorem aop_sound (hR : HR P base ι C w) {ρ ρ' : Operand → Value} {o : Oper} {r : Res} (h : aop P ρ n H o = some r) (hρ : ∀ x ∈ o.op.operands, VR ι (ρ x) (ρ' x))
    (hrd : ∀ x ∈ r.rd, ι x ≠ none → C x = H x) (hwr : ∀ x ob, r.wr = some (x, ob) → ι x ≠ none → C x = H x) (hn : r.news ≠ [] → ι n = none ∧ H n = .dead) (hcn : ρ' (.const (.slice none 0 0)) = .slice none 0 0) :
    Good P base ι C H n r w ((execOp ρ' o).run P w) := by
  obtain ⟨dst, op, type, pos, after, guard⟩ := o
  unfold aop at h
  simp only at h
  have flatCase : ∀ {r : Res}, aflat P ρ ⟨dst, op, type, pos, after, guard⟩ = some r → (∀ cs b, op ≠ .select cs b) →
      Good P base ι C H n r w ((execOp ρ' ⟨dst, op, type, pos, after, guard⟩).run P w) := fun h hs => flat_sound hR h hs hρ hcn
  split at h
  · rename_i x; cases h
    exact good_value hR rfl (hρ x (by simp [Op.operands]))
  · rename_i x; cases h
    exact good_value hR rfl (hρ x (by simp [Op.operands]))
  · rename_i c a b
    have hc := hρ c (by simp [Op.operands])
    have ha := hρ a (by simp [Op.operands])
    have hb := hρ b (by simp [Op.operands])
    split at h
    case h_2 => cases h
    rename_i t ht
    cases h
    rw [ht] at hc
    generalize hc' : ρ' c = c' at hc
    cases hc
    refine good_value (v' := if t then ρ' a else ρ' b) hR (by simp [execOp, hc', asBool]) ?_
    cases t
    · exact hb
    · exact ha
  · rename_i t
    exact alloc_sound hR h hn _
  · rename_i t x
    have hx := hρ x (by simp [Op.operands])
    exact box_sound hR h hx hn (run_box _ _)
  · rename_i t ps
    refine good_ok h fun v hv => ?_
    refine build_sound hR hv ?_ ?_
    · simp [List.map_map, Function.comp_def]
    · have := VRs_parts (ι := ι) (ρ := ρ) (ρ' := ρ') (ps := ps.toList) (fun x hx => hρ x (by simpa [Op.operands] using hx))
      simpa using this
  · rename_i t len ps
    refine buildSlice_sound hR h ?_ ?_ hn
    · simp [List.map_map, Function.comp_def]
    · have := VRs_parts (ι := ι) (ρ := ρ) (ρ' := ρ') (ps := ps.toList) (fun x hx => hρ x (by simpa [Op.operands] using hx))
      simpa using this
  · rename_i t a
    exact load_sound hR h (hρ a (by simp [Op.operands])) hrd
  · rename_i t a x
    exact store_sound hR h (hρ a (by simp [Op.operands])) (hρ x (by simp [Op.operands])) hwr
  · rename_i x
    have hx := hρ x (by simp [Op.operands])
    split at h
    · rename_i a ha
      cases h
      rw [ha] at hx
      generalize hx' : ρ' x = x' at hx
      have hx2 := hx
      cases hx
      exact good_value hR (by simp [execOp, hx']) hx2
    · rename_i g a b ha
      cases h
      rw [ha] at hx
      generalize hx' : ρ' x = x' at hx
      have hx2 := hx
      cases hx
      exact good_value hR (by simp [execOp, hx']) hx2
    · cases h
  · rename_i op t x y yt
    have hx := hρ x (by simp [Op.operands])
    have hy := hρ y (by simp [Op.operands])
    split at h
    · rename_i b hb
      obtain ⟨e1, e2, e3⟩ := eqNil_run (w := w) hb hx hy
      split at h
      · cases h
        exact good_value hR (by simp [execOp, e1, e3]) (.bool _)
      · cases h
        exact good_value hR (by simp [execOp, e2, e3]) (.bool _)
      · cases h
    · split at h
      · rename_i v hv
        cases h
        obtain ⟨rfl, b, h1, h2⟩ := nan_run (w := w) hv hx hy
        refine ⟨.value (.float .f64 b), w.drew, ι, .float .f64 b, ?_, .inl rfl, .nan b h1, Inj.le_refl ι, fun _ _ => rfl, ?_, (Below.refl _ _).drew, fun _ _ e => by (cases e), fun e => absurd rfl e⟩
        · exact run_value (h2 x y)
        · rw [heap_pure, patch_same]; exact hR.same rfl
      · exact flatCase h (fun cs b e => by cases e)
  · rename_i g first captured
    cases h
    have h1 := VRs_map (ι := ι) (ρ := ρ) (ρ' := ρ') (l := first.toList) (fun x hx => hρ x (by simp [Op.operands]; exact .inl (by simpa using hx)))
    have h2 := VRs_map (ι := ι) (ρ := ρ) (ρ' := ρ') (l := captured.toList) (fun x hx => hρ x (by simp [Op.operands]; exact .inr (by simpa using hx)))
    refine good_value (v' := .func (.func g) (first.map ρ') (captured.map ρ')) hR (by simp [execOp, Instr.makeFunc]) ?_
    refine .func g _ _ _ _ (by simp) (by simp) (fun i v v' e e' => h1.2 i v v' (by simpa using e) (by simpa using e')) (fun i v v' e e' => h2.2 i v v' (by simpa using e) (by simpa using e'))
  · rename_i t l c
    exact makeSlice_sound hR h (hρ l (by simp [Op.operands])) (hρ c (by simp [Op.operands])) hn
  · rename_i t x lo hi
    have hx := hρ x (by simp [Op.operands])
    split at h
    · rename_i a b c ha
      rw [ha] at hx
      refine slice_sound hR h hx ?_ ?_ hrd
      · cases lo with
        | none => exact .inl ⟨rfl, rfl⟩
        | some u => exact .inr ⟨_, _, rfl, rfl, hρ u (by simp [Op.operands])⟩
      · cases hi with
        | none => exact .inl ⟨rfl, rfl⟩
        | some u => exact .inr ⟨_, _, rfl, rfl, hρ u (by simp [Op.operands])⟩
    · rename_i a ha
      rw [ha] at hx
      refine slice_sound hR h hx ?_ ?_ hrd
      · cases lo with
        | none => exact .inl ⟨rfl, rfl⟩
        | some u => exact .inr ⟨_, _, rfl, rfl, hρ u (by simp [Op.operands])⟩
      · cases hi with
        | none => exact .inl ⟨rfl, rfl⟩
        | some u => exact .inr ⟨_, _, rfl, rfl, hρ u (by simp [Op.operands])⟩
    · exact flatCase h (fun cs b e => by cases e)
  · rename_i t x i
    exact good_ok h fun v hv => fieldAddr_sound hR hv (hρ x (by simp [Op.operands]))
  · rename_i t x i
    exact good_ok h fun v hv => field_sound hR hv (hρ x (by simp [Op.operands]))
  · rename_i t x i
    exact good_ok h fun v hv => indexAddr_sound hR hv (hρ x (by simp [Op.operands])) (hρ i (by simp [Op.operands]))
  · rename_i t x i
    have hx := hρ x (by simp [Op.operands])
    split at h
    · rename_i cs hcs
      rw [hcs] at hx
      exact good_ok h fun v hv => index_sound hR hv hx (hρ i (by simp [Op.operands]))
    · exact flatCase h (fun cs b e => by cases e)
  · rename_i x i
    have hx := hρ x (by simp [Op.operands])
    split at h
    case h_2 => cases h
    rename_i vs hvs
    rw [hvs] at hx
    generalize hx' : ρ' x = x' at hx
    cases hx with
    | tuple _ a' ha hra =>
      refine good_ok h fun v hv => ?_
      obtain ⟨v', e1, e2⟩ := (VRs.of_arrays ha hra).get hv
      refine good_value hR (run_value ?_) e2
      have e1' : a'[i]? = some v' := by simpa using e1
      simp [hx', Instr.extract, e1']
  · rename_i args argTypes
    split at h
    case h_2 => cases h
    rename_i x hargs
    have hx := hρ x (by
      have : x ∈ args.toList := by rw [hargs]; simp
      simp [Op.operands, Call.operands]; simpa using this)
    have hl := len_sound (ty := type) (n := n) hR h hx hrd
    have ha : args = #[x] := by rw [← Array.toList_inj]; simpa using hargs
    subst ha
    simpa [execOp, resolve, invoke, builtin] using hl
  · rename_i args argTypes
    split at h
    case h_2 => cases h
    rename_i s x hargs
    have ha : args = #[s, x] := by rw [← Array.toList_inj]; simpa using hargs
    subst ha
    split at h
    · have hl := append_sound (ty := type) (n := n) hR h (hρ s (by simp [Op.operands, Call.operands])) (hρ x (by simp [Op.operands, Call.operands])) hrd hwr hn
      simpa [execOp, resolve, invoke, builtin] using hl
    · have hl := grow_sound (ty := type) (n := n) hR h (hρ s (by simp [Op.operands, Call.operands])) (hρ x (by simp [Op.operands, Call.operands])) hrd hwr hn
      simpa [execOp, resolve, invoke, builtin] using hl
  · rename_i args argTypes
    split at h
    case h_2 => cases h
    rename_i x hargs
    have ha : args = #[x] := by rw [← Array.toList_inj]; simpa using hargs
    subst ha
    have hl := clear_sound (ty0 := type) (n := n) hR h (hρ x (by simp [Op.operands, Call.operands])) hwr
    simpa [execOp, resolve, invoke, builtin] using hl
  · rename_i args argTypes
    split at h
    case h_2 => cases h
    rename_i x hargs
    have ha : args = #[x] := by rw [← Array.toList_inj]; simpa using hargs
    subst ha
    have hx := hρ x (by simp [Op.operands, Call.operands])
    split at h
    case h_2 => cases h
    rename_i y k m cc hxv
    cases h
    rw [hxv] at hx
    generalize hx' : ρ' x = x' at hx
    cases hx with
    | slice _ _ _ o c t' ht' hoff hc hm how =>
      obtain ⟨c', rfl⟩ : ∃ c', c = c' + 1 := ⟨c - 1, by omega⟩
      refine good_value (v' := .pointer (some ⟨t'.block, t'.off + k, none⟩)) hR ?_ (.ptr y k t' ht')
      rw [← hoff (by omega)]
      have hrun : (Builtin.unsafeSliceData_ argTypes type #[.slice (some ⟨t'.block, o, none⟩) (m + 1) (c' + 1)]).run P w = .ok (.pointer (some ⟨t'.block, o, none⟩)) w := rfl
      simp [execOp, resolve, invoke, builtin, hx', hrun]
  · rename_i args argTypes
    split at h
    case h_2 => cases h
    rename_i x m hargs
    have ha : args = #[x, m] := by rw [← Array.toList_inj]; simpa using hargs
    subst ha
    have hl := unstr_sound (ty := type) (n := n) hR h (hρ x (by simp [Op.operands, Call.operands])) (hρ m (by simp [Op.operands, Call.operands])) hrd
    simpa [execOp, resolve, invoke, builtin] using hl
  · rename_i g args argTypes
    split at h
    case h_2 => cases h
    rename_i q first captured hg
    split at h
    case isFalse => cases h
    rename_i hemp
    rw [Bool.and_eq_true, Array.isEmpty_iff, Array.isEmpty_iff] at hemp
    obtain ⟨rfl, rfl⟩ := hemp
    refine good_ok h fun v hv => ?_
    have hf := hρ g (by simp [Op.operands, Call.operands])
    rw [hg] at hf
    generalize hg' : ρ' g = g' at hf
    cases hf with
    | func _ _ _ a' b' ha hb _ _ =>
      have ha' : a' = #[] := by simpa using ha.symm
      have hb' : b' = #[] := by simpa using hb.symm
      subst ha' hb'
      have hargs := VRs_map (ι := ι) (ρ := ρ) (ρ' := ρ') (l := args.toList) (fun x hx => hρ x (by simp [Op.operands, Call.operands]; exact .inr (by simpa using hx)))
      obtain ⟨u', e1, e2⟩ := ext_run (w := w) hv hargs
      have e3 : (args.toList.map ρ').toArray = args.map ρ' := by apply Array.ext'; simp
      rw [e3] at e1
      exact good_value hR (by simp [execOp, resolve, hg', Deferred.ofValue, invoke, e1]) e2
  · cases h
  · rename_i s d x
    have hx := hρ x (by simp [Op.operands])
    split at h
    · rename_i a b c ha
      rw [ha] at hx
      exact string_sound hR h hx hrd
    · rename_i y k ha
      rw [ha] at hx
      exact unsafe_sound hR h hx hrd
    · exact flatCase h (fun cs b e => by cases e)
  · rename_i t x k ok
    exact lookup_sound hR h (hρ x (by simp [Op.operands])) (hρ k (by simp [Op.operands])) hrd
  · rename_i t m k x
    exact mapset_sound hR h (hρ m (by simp [Op.operands])) (hρ k (by simp [Op.operands])) (hρ x (by simp [Op.operands])) hwr
  · rename_i t m k x
    exact mapset_sound hR h (hρ m (by simp [Op.operands])) (hρ k (by simp [Op.operands])) (hρ x (by simp [Op.operands])) hwr
  · rename_i t
    split at h
    case h_2 => cases h
    cases h
    exact mkmap_sound hR (hn (by simp))
  · exact flatCase h (fun cs b e => by cases e)
  · exact flatCase h (fun cs b e => by cases e)
  · exact flatCase h (fun cs b e => by cases e)
  · cases h
end
end Go.AM
namespace Go.AM
open Go.RowKit
structure St where
 f:Fr
 n:Nat
 H:Heap
inductive AExit where
 | normal
 | exit (id:Nat)
 | ret
 deriving DecidableEq
structure Rec where
 pre:St
 v:Value
 n:Nat
 H:Heap
 rd:List Nat
 wr:Option Nat
 call:Bool
def wantedA(ops:Array Oper)(f:Fr)(o:Oper):Bool :=
 match o.guard with
 | none=>true
 | some (j,want)=>match(ops[j]?).bind (·.dst)with
  | some d=>match f d with
   | .bool b=>b == want
   | _=>false
  | none=>false
def operandOK(ng nt:Nat):Operand→Bool
 | .tmp t=>decide (t<nt)
 | .const v=>still v
 | .func _=>true
 | .global g=>decide (g<ng)
def operOK(ng nt:Nat)(ops:Array Oper)(o:Oper):Bool :=
 (match o.dst with|some d=>decide (d<nt)|none=>true) && o.op.operands.toList.all (operandOK ng nt) &&
 (match o.guard with|some (j,_)=>(match(ops[j]?).bind (·.dst)with|some d=>decide (d<nt)|none=>false)|none=>true) &&
 (match o.op with|.select ..=>false|_=>true)
def masksGo(acc:List Nat):List Oper→List Nat
 | []=>acc
 | o::rest=>masksGo (acc++[o.after.toList.foldl (fun m e=>if Region.binds .any e then Nat.lor m (Nat.lor (2 ^ e.on) (acc.getD e.on 0)) else m) 0]) rest
def masks(ops:Array Oper):List Nat:=masksGo [] ops.toList
def forced(ms:List Nat)(i j:Nat):Bool:=(ms.getD j 0).testBit i
def isCall(o:Oper):Bool:=match o.op with|.call { callee:=.value _,.. }=>true|_=>false
def mayWrite(o:Oper):Bool:=match o.op with
 | .store ..|.call { callee:=.builtin .append,.. }|.mapUpdate ..|.insert ..|.call { callee:=.builtin .delete,.. }|.call { callee:=.builtin .copy,.. }|.call { callee:=.builtin .clear,.. }|.call { callee:=.builtin .unsafeString,.. }|.next ..=>true
 | _=>false
def mayTouch(o:Oper):Bool:=match o.op with
 | .move _|.assign _|.pick ..|.binOp ..|.unOp ..|.fieldAddr ..|.indexAddr ..|.field ..|.index ..|.nilCheck _|.extract ..|.box ..|.alloc _|.build ..|.buildSlice ..|.makeSlice ..|.makeMap ..|.makeFunc ..=>false
 | _=>true
def allPairs(n:Nat)(q:Nat→Nat→Bool):Bool:=(List.range n).all fun j=>(List.range j).all fun i=>q i j
def drawStatic(ops:Array Oper):Bool :=
 let ms:=masks ops
 ((List.range ops.size).all fun j=>match ops[j]? with|some o=>o.after.toList.all fun e=>!Region.binds .any e || decide (e.on<j)|none=>false) &&
 allPairs ops.size fun i j=>match ops[i]?,ops[j]? with
  | some x,some y=>forced ms i j || (x.apart ops y && !(isCall x && mayWrite y) && !(isCall y && mayWrite x))
  | _,_=>false
def sPairs(ops:Array Oper):List (Nat × Nat) :=
 let ms:=masks ops
 (List.range ops.size).flatMap fun j=>(List.range j).filterMap fun i=>match ops[i]?,ops[j]? with
  | some x,some y=>if !forced ms i j && ((mayWrite x && mayTouch y) || (mayWrite y && mayTouch x)) then some (i,j) else none
  | _,_=>none
def codeOK(ng nt:Nat):Code→Bool
 | .skip|.ret|.exit _|.label _|.refuse _=>true
 | .seq a b=>codeOK ng nt a && codeOK ng nt b
 | .cond c a b=>operandOK ng nt c && codeOK ng nt a && codeOK ng nt b
 | .block _ a|.loop a=>codeOK ng nt a
 | .region _ ops draw=>ops.toList.all (operOK ng nt ops) && (!draw || drawStatic ops)
 | _=>false
def resOK(nt:Nat):ResultVar→Bool
 | .tmp t=>decide (t<nt)
 | .cell a _=>decide (a<nt)
def resultsOK(fn:Func):Bool:=fn.results.toList.all (resOK fn.ntmps)
def touches(l:List Rec)(i x:Nat):Prop:=∃r,l[i]? = some r∧(x∈r.rd∨r.wr=some x)
def writes(l:List Rec)(i x:Nat):Prop:=∃r,l[i]? = some r∧r.wr=some x
def soloB(ops:Array Oper)(j:Nat):Bool:=(List.range ops.size).all fun i=>i == j || forced (masks ops) (min i j) (max i j) || (match ops[i]? with|some o=>!mayTouch o|none=>true)
def drawOK(ops:Array Oper)(l:List Rec):Prop :=
 (∀p∈sPairs ops,∀x,¬(writes l p.1 x∧touches l p.2 x)∧¬(writes l p.2 x∧touches l p.1 x)) ∧
 ∀(k:Nat) (r:Rec),l[k]? = some r→r.call=true→soloB ops k=true∨∀x,x<r.pre.n→r.H x=r.pre.H x
inductive Job where
 | code (c:Code) (s:St)
 | ops (all:Array Oper) (rest:List Oper) (s:St)
 | call (g:FuncId) (args:List Value) (n:Nat) (H:Heap)
inductive Out where
 | at (e:AExit) (s:St)
 | log (s:St) (l:List Rec)
 | ret (v:Value) (n:Nat) (H:Heap)
def aresult(P:Program)(s:St):ResultVar→Option Value
 | .tmp t=>some (s.f t)
 | .cell a ty=>(aload P ty s.H (s.f a)).map (·.v)
def aresultsL(P:Program)(s:St):List ResultVar→Option (List Value)
 | []=>some []
 | r::rs=>match aresult P s r,aresultsL P s rs with
  | some v,some l=>some (v::l)
  | _,_=>none
def aresults(P:Program)(fn:Func)(s:St):Option Value :=
 (aresultsL P s fn.results.toList).map fun
  | [v]=>v
  | l=>.tuple l.toArray
def blockExit(id:Nat):AExit→AExit
 | .exit i=>if i=id then .normal else .exit i
 | e=>e
structure FnOK(P:Program)(g:FuncId)(fn:Func)(c:Code):Prop where
 get:P.funcs[g]? = some fn
 body:fn.body=some c
 name : (fn.name == "runtime.NumGoroutine") = false
 code:codeOK (ngl P) fn.ntmps c=true
 results:resultsOK fn=true
def SemB(P:Program)(g:FuncId)(args:List Value)(H0:Heap)(v:Value):Prop :=
 (∃fn c,FnOK P g fn c)∧∀(ι:Inj) (C0:Heap) (w:World) (args':List Value) (m:Nat),VRs ι args args'→HR P w.heap.size ι C0 w→(∀x,ι x≠none→H0 x≠.dead→C0 x=H0 x)→(∀x,m≤x→ι x=none)→(∀x,m≤x→H0 x=.dead) →
  Calls P g args'.toArray w fun e w'=>e=.returned v∧Below w.heap.size w w'
inductive NRs:List Value→List Value→Prop where
 | nil:NRs [] []
 | same (v:Value) {l l':List Value}:v≠nanV→NRs l l'→NRs (v::l) (v::l')
 | nan (b:Nat) {l l':List Value}:isNaNw b→NRs l l'→NRs (nanV::l) (.float .f64 b::l')
def Ch(C H C' H':Heap):Prop:=∀x,(H' x=H x∧C' x=C x)∨(C' x=H' x∧C x=H x)
def Pres(ι:Inj)(C H:Heap):Prop:=∀x,ι x≠none→H x≠.dead→C x=H x
def Fresh(ι:Inj)(n n':Nat):Prop:=∀x,n≤x→x<n'→ι x=none
def WF(n:Nat)(H:Heap):Prop:=∀x,n≤x→H x=.dead
structure Mono(n:Nat)(H:Heap)(n':Nat)(H':Heap):Prop where
 le:n≤n'
 wf:WF n H→WF n' H'
 dead:∀x,x<n→H x=.dead→H' x=.dead
structure After(P:Program)(base:Nat)(ι:Inj)(C H:Heap)(n:Nat)(w:World)(κ:Inj)(C' H':Heap)(n':Nat)(w':World):Prop where
 le:Inj.le ι κ
 out:∀x,¬(n≤x∧x<n')→κ x=ι x
 ch:Ch C H C' H'
 seen:∀x,H' x≠H x→κ x≠none
 hr:HR P base κ C' w'
 below:Below base w w'
def CallSound(P:Program)(g:FuncId)(args:List Value)(n:Nat)(H:Heap)(v:Value)(n':Nat)(H':Heap):Prop :=
 WF n H→∀(base:Nat) (ι:Inj) (C:Heap) (w:World) (args':List Value),VRs ι args args'→HR P base ι C w→Pres ι C H→Fresh ι n n' →
  Calls P g args'.toArray w fun e w'=>∃v' κ C',e=.returned v'∧VR κ v v'∧After P base ι C H n w κ C' H' n' w'
inductive BS (P : Program) : Job → Out → Prop where
  | skip (s : St) : BS P (.code .skip s) (.at .normal s)
  | label (l : Nat) (s : St) : BS P (.code (.label l) s) (.at .normal s)
  | ret (s : St) : BS P (.code .ret s) (.at .ret s)
  | exit (id : Nat) (s : St) : BS P (.code (.exit id) s) (.at (.exit id) s)
  | seq {a b : Code} {s s1 s2 : St} {e : AExit} : BS P (.code a s) (.at .normal s1) → BS P (.code b s1) (.at e s2) → BS P (.code (.seq a b) s) (.at e s2)
  | seqOut {a b : Code} {s s1 : St} {e : AExit} : e ≠ .normal → BS P (.code a s) (.at e s1) → BS P (.code (.seq a b) s) (.at e s1)
  | cond {x : Operand} {a b : Code} {s s1 : St} {e : AExit} (t : Bool) : evalA s.f x = .bool t → BS P (.code (cond t a b) s) (.at e s1) → BS P (.code (.cond x a b) s) (.at e s1)
  | block {id : Nat} {c : Code} {s s1 : St} {e : AExit} : BS P (.code c s) (.at e s1) → BS P (.code (.block id c) s) (.at (blockExit id e) s1)
  | loop {c : Code} {s s1 s2 : St} {e : AExit} : BS P (.code c s) (.at .normal s1) → BS P (.code (.loop c) s1) (.at e s2) → BS P (.code (.loop c) s) (.at e s2)
  | loopOut {c : Code} {s s1 : St} {e : AExit} : e ≠ .normal → BS P (.code c s) (.at e s1) → BS P (.code (.loop c) s) (.at e s1)
  | region {id : Nat} {ops : Array Oper} {s s1 : St} {l : List Rec} : BS P (.ops ops ops.toList s) (.log s1 l) → BS P (.code (.region id ops false) s) (.at .normal s1)
  | regionDraw {id : Nat} {ops : Array Oper} {s s1 : St} {l : List Rec} : BS P (.ops ops ops.toList s) (.log s1 l) → drawOK ops l → BS P (.code (.region id ops true) s) (.at .normal s1)
  | opsNil (all : Array Oper) (s : St) : BS P (.ops all [] s) (.log s [])
  | opsSkip {all : Array Oper} {o : Oper} {rest : List Oper} {s s1 : St} {l : List Rec} : wantedA all s.f o = false →
      BS P (.ops all rest ⟨fput s.f o.dst undef, s.n, s.H⟩) (.log s1 l) → BS P (.ops all (o :: rest) s) (.log s1 (⟨s, undef, s.n, s.H, [], none, false⟩ :: l))
  | opsOp {all : Array Oper} {o : Oper} {rest : List Oper} {s s1 : St} {l : List Rec} {r : Res} : wantedA all s.f o = true → aop P (evalA s.f) s.n s.H o = some r →
      BS P (.ops all rest ⟨fput s.f o.dst r.v, r.next s.n, r.heap s.n s.H⟩) (.log s1 l) →
      BS P (.ops all (o :: rest) s) (.log s1 (⟨s, r.v, r.next s.n, r.heap s.n s.H, r.rd, r.wr.map (·.1), false⟩ :: l))
  | opsCall {all : Array Oper} {o : Oper} {rest : List Oper} {s s1 : St} {l : List Rec} {g : FuncId} {args : List Value} {v : Value} {n : Nat} {H : Heap} : wantedA all s.f o = true →
      acallee (evalA s.f) o = some (g, args) → BS P (.call g args s.n s.H) (.ret v n H) →
      BS P (.ops all rest ⟨fput s.f o.dst v, n, H⟩) (.log s1 l) → BS P (.ops all (o :: rest) s) (.log s1 (⟨s, v, n, H, [], none, true⟩ :: l))
  | call {g : FuncId} {args : List Value} {n : Nat} {H : Heap} {fn : Func} {c : Code} {e : AExit} {s : St} {v : Value} : FnOK P g fn c → args.length ≤ fn.ntmps →
      BS P (.code c ⟨fun t => args.getD t undef, n, H⟩) (.at e s) → (e = .normal ∨ e = .ret) → aresults P fn s = some v → BS P (.call g args n H) (.ret v s.n s.H)
    | closed {g : FuncId} {args : List Value} {v : Value} {H0 : Heap} {n1 : Nat} {H1 : Heap} {n : Nat} {H : Heap} : BS P (.call g args (ngl P) H0) (.ret v n1 H1) → (∀ x, ngl P ≤ x → H0 x = .dead) →
      (∀ x, H0 x ≠ .dead → (∃ cs ty, H0 x = .cells cs ty false ∧ cs.all flat1 = true) ∧ H x = H0 x) → (ha : args.all flat1 = true := by rfl) → (hv : flat1 v = true := by rfl) → BS P (.call g args n H) (.ret v n H)
  | sem {g : FuncId} {args : List Value} {H0 : Heap} {v : Value} {n : Nat} {H : Heap} : SemB P g args H0 v → flat v = true → (∀ x, H0 x ≠ .dead → x < n ∧ ∃ cs ty own, H0 x = .cells cs ty false ∧ H x = .cells cs ty own) → BS P (.call g args n H) (.ret v n H)
    | prim {g : FuncId} {args : List Value} {n : Nat} {H : Heap} {v : Value} {n' : Nat} {H' : Heap} : (∃ fn c, FnOK P g fn c) → Mono n H n' H' → CallSound P g args n H v n' H' → BS P (.call g args n H) (.ret v n' H')
    | nans {g : FuncId} {args : List Value} {n : Nat} {H : Heap} {v : Value} : (∀ l, NRs args l → BS P (.call g l n H) (.ret v n H)) → BS P (.call g args n H) (.ret v n H)
end Go.AM
namespace Go.AM
open Go.RowKit
def cutI(m:Nat)(ι:Inj):Inj:=fun x=>if x<m then(ι x).map fun t=>{ t with own:=false } else none
theorem cut_some{m:Nat}{ι:Inj}{x:Nat}{t:Tgt}(h:ι x=some t)(hx:x<m):cutI m ι x=some { t with own:=false }:=by
 unfold cutI
 rw[if_pos hx,h]
 rfl
theorem cut_inv{m:Nat}{ι:Inj}{x:Nat}{t:Tgt}(h:cutI m ι x=some t):x<m∧t.own=false∧∃u,ι x=some u∧t.block=u.block:=by
 unfold cutI at h
 split at h
 ·rename_i hx
  cases hi:ι x with
  | none=>rw[hi]at h;cases h
  | some u=>rw[hi]at h;cases h;exact⟨hx,rfl,u,rfl,rfl⟩
 ·cases h
theorem fin_bound{p:Nat→Nat→Prop}:∀k:Nat,(∀i,i<k→∃N:Nat,∀m,N≤m→p i m)→∃N:Nat,∀m,N≤m→∀i,i<k→p i m:=by
 intro k
 induction k with
 | zero=>exact fun _=>⟨0,fun m _ i hi=>absurd hi (Nat.not_lt_zero _)⟩
 | succ k ih =>
  intro h
  obtain⟨N1,h1⟩:=ih fun i hi=>h i (by omega)
  obtain⟨N2,h2⟩:=h k (by omega)
  refine⟨max N1 N2,fun m hm i hi=>?_⟩
  by_cases e:i=k
  ·subst e;exact h2 m (by omega)
  ·exact h1 m (by omega) i (by omega)
theorem list_bound{ι:Inj}{l l':List Value}(h:∀(i:Nat) (v v':Value),l[i]? = some v→l'[i]? = some v'→∃N:Nat,∀m,N≤m→VR (cutI m ι) v v') :
  ∃N:Nat,∀m,N≤m→∀(i:Nat) (v v':Value),l[i]? = some v→l'[i]? = some v'→VR (cutI m ι) v v':=by
 obtain⟨N,hN⟩:=fin_bound (p:=fun i m=>∀v v',l[i]? = some v→l'[i]? = some v'→VR (cutI m ι) v v') l.length fun i hi=>by
  cases h2:l'[i]? with
  | none=>exact⟨0,fun m _ v v' _ e=>by cases e⟩
  | some u =>
   obtain⟨N,hN⟩:=h i l[i] u (List.getElem?_eq_getElem hi) h2
   refine⟨N,fun m hm v v' e1 e2=>?_⟩
   rw[List.getElem?_eq_getElem hi]at e1
   cases e1;cases e2
   exact hN m hm
 exact⟨N,fun m hm i v v' e1 e2=>hN m hm i (List.getElem?_eq_some_iff.1 e1).1 v v' e1 e2⟩
theorem arr_bound{ι:Inj}{a a':Array Value}(h:∀(i:Nat) (v v':Value),a[i]? = some v→a'[i]? = some v'→∃N:Nat,∀m,N≤m→VR (cutI m ι) v v') :
  ∃N:Nat,∀m,N≤m→∀(i:Nat) (v v':Value),a[i]? = some v→a'[i]? = some v'→VR (cutI m ι) v v':=by
 obtain⟨N,hN⟩:=list_bound (ι:=ι) (l:=a.toList) (l':=a'.toList) fun i v v' e1 e2=>h i v v' (by simpa using e1) (by simpa using e2)
 exact⟨N,fun m hm i v v' e1 e2=>hN m hm i v v' (by simpa using e1) (by simpa using e2)⟩
theorem VR.cut{ι:Inj}{v v':Value}(h:VR ι v v'):∃N:Nat,∀m,N≤m→VR (cutI m ι) v v':=by
 induction h with
 | bool b=>exact⟨0,fun _ _=>.bool b⟩
 | int k n=>exact⟨0,fun _ _=>.int k n⟩
 | float k b=>exact⟨0,fun _ _=>.float k b⟩
 | string s=>exact⟨0,fun _ _=>.string s⟩
 | nilFunc=>exact⟨0,fun _ _=>.nilFunc⟩
 | nilIface=>exact⟨0,fun _ _=>.nilIface⟩
 | ptrNil=>exact⟨0,fun _ _=>.ptrNil⟩
 | sliceNil=>exact⟨0,fun _ _=>.sliceNil⟩
 | mapNil=>exact⟨0,fun _ _=>.mapNil⟩
 | nan b h=>exact⟨0,fun _ _=>.nan b h⟩
 | ptr x k t e=>exact⟨x+1,fun m hm=>.ptr x k { t with own:=false } (cut_some e hm)⟩
 | sliceE x k a t e ho=>exact⟨x+1,fun m hm=>.sliceE x k a _ (cut_some e hm) rfl⟩
 | slice x k n o c t e ho hc hm hown=>exact⟨x+1,fun m hm'=>.slice x k n o c { t with own:=false } (cut_some e hm') ho hc hm fun e=>absurd e (by simp)⟩
 | sliceA x k n o c t e ho hc hm=>exact⟨x+1,fun m hm'=>.sliceA x k n o c { t with own:=false } (cut_some e hm') ho hc hm⟩
 | map x t e=>exact⟨x+1,fun m hm=>.map x { t with own:=false } (cut_some e hm)⟩
 | func g a b a' b' ha hb _ _ iha ihb =>
  obtain⟨N1,h1⟩:=arr_bound iha
  obtain⟨N2,h2⟩:=arr_bound ihb
  exact⟨max N1 N2,fun m hm=>.func g a b a' b' ha hb (h1 m (by omega)) (h2 m (by omega))⟩
 | agg a a' ha _ iha =>
  obtain⟨N,h⟩:=arr_bound iha
  exact⟨N,fun m hm=>.agg a a' ha (h m hm)⟩
 | tuple a a' ha _ iha =>
  obtain⟨N,h⟩:=arr_bound iha
  exact⟨N,fun m hm=>.tuple a a' ha (h m hm)⟩
theorem VRs.cut{ι:Inj}{l l':List Value}(h:VRs ι l l'):∃N:Nat,∀m,N≤m→VRs (cutI m ι) l l':=by
 obtain⟨N,hN⟩:=list_bound fun i v v' e1 e2=>(h.2 i v v' e1 e2).cut
 exact⟨N,fun m hm=>⟨h.1,hN m hm⟩⟩
theorem obj_cut{P:Program}{ι:Inj}{w:World}{x:Nat}{cs:List Value}{ty:TypeId}{own:Bool}(h:ObjOK P ι w x (.cells cs ty own)):∃N:Nat,∀m,N≤m→ObjOK P (cutI m ι) w x (.cells cs ty false):=by
 obtain⟨t,ht,_,hc,_⟩:=h
 obtain⟨N,hN⟩:=fin_bound (p:=fun i m=>∀v,cs[i]? = some v→∃v',w.cell? ⟨t.block,t.off+i,none⟩=some v'∧VR (cutI m ι) v v'∧one v=true) cs.length fun i hi=>by
  obtain⟨v',e1,e2,e3⟩:=hc i _ (List.getElem?_eq_getElem hi)
  obtain⟨N,hN⟩:=e2.cut
  refine⟨N,fun m hm v e=>?_⟩
  rw[List.getElem?_eq_getElem hi]at e
  cases e
  exact⟨v',e1,hN m hm,e3⟩
 refine⟨max N (x+1),fun m hm=>⟨{ t with own:=false },cut_some ht (by omega),rfl,fun i v e=>hN m (by omega) i (List.getElem?_eq_some_iff.1 e).1 v e,fun e=>by cases e⟩⟩
theorem hr_cut{P:Program}{base:Nat}{ι:Inj}{C H0:Heap}{w:World}(hR:HR P base ι C w){n:Nat}(h:∀x,H0 x≠.dead→x<n∧∃cs ty own,H0 x=.cells cs ty false∧(ι x≠none→C x=.cells cs ty own)){args args':List Value}(hv:VRs ι args args') :
  ∃m,n≤m∧VRs (cutI m ι) args args'∧HR P w.heap.size (cutI m ι) (fun x=>match ι x with|none=>.dead|some _=>H0 x) w:=by
 obtain⟨N1,h1⟩:=hv.cut
 obtain⟨N2,h2⟩:=fin_bound (p:=fun x m=>ι x≠none→H0 x≠.dead→ObjOK P (cutI m ι) w x (H0 x)) n fun x _=>by
  by_cases hi:ι x=none
  ·exact⟨0,fun _ _ e=>absurd hi e⟩
  by_cases hd:H0 x=.dead
  ·exact⟨0,fun _ _ _ e=>absurd hd e⟩
  obtain⟨_,cs,ty,own,e1,e2⟩:=h x hd
  have hob:=hR.obj x
  rw[e2 hi]at hob
  obtain⟨N,hN⟩:=obj_cut hob
  exact⟨N,fun m hm _ _=>by rw[e1];exact hN m hm⟩
 obtain⟨m,hm1,hm2,hm3,hm4⟩:∃m,N1≤m∧N2≤m∧n≤m∧ngl P≤m:=⟨max (max N1 N2) (max n (ngl P)),by omega,by omega,by omega,by omega⟩
 have hC:∀x,(match ι x with|none=>AObj.dead|some _=>H0 x)≠.dead→ι x≠none∧H0 x≠.dead∧(match ι x with|none=>AObj.dead|some _=>H0 x)=H0 x:=fun x hx=>by
  cases hi:ι x with
  | none=>rw[hi]at hx;exact absurd rfl hx
  | some t=>rw[hi]at hx;exact⟨(fun e=>by cases e),hx,rfl⟩
 refine⟨m,hm3,h1 m hm1,fun x=>?_,fun x y t u _ _ ex _ ho=>?_,fun x t e=>?_,Nat.le_refl _,fun g hg=>?_,fun x y t u cs ty b ds ty' hx=>?_⟩
 ·by_cases hd:(match ι x with|none=>AObj.dead|some _=>H0 x)=.dead
  ·rw[hd];trivial
  ·obtain⟨a,b,c⟩:=hC x hd
   rw[c]
   exact h2 m hm2 x (h x b).1 a b
 ·rw[(cut_inv ex).2.1]at ho;cases ho
 ·obtain⟨_,e2,u,e3,e4⟩:=cut_inv e
  have:=(hR.rng x u e3).1
  rw[e4]
  exact⟨this,(fun k=>by rw[e2]at k;cases k),fun _=>this⟩
 ·rw[cut_some (hR.gl g hg) (by omega)]
 ·obtain⟨_,b,c⟩:=hC x (by rw[hx];intro e;cases e)
  rw[c]at hx
  obtain⟨_,cs,ty,own,e1,_⟩:=h x b
  rw[e1]at hx;cases hx
end Go.AM
namespace Go.AM
open Go.RowKit
theorem Mono.refl(n:Nat)(H:Heap):Mono n H n H:=⟨Nat.le_refl _,id,fun _ _ h=>h⟩
theorem Mono.trans{n n1 n2:Nat}{H H1 H2:Heap}(a:Mono n H n1 H1)(b:Mono n1 H1 n2 H2):Mono n H n2 H2 :=
 ⟨Nat.le_trans a.le b.le,fun h=>b.wf (a.wf h),fun x hx h=>b.dead x (Nat.lt_of_lt_of_le hx a.le) (a.dead x hx h)⟩
section
variable {P:Program} {base:Nat} {ι κ μ:Inj} {C C1 C2 H H1 H2:Heap} {n n1 n2:Nat} {w w1 w2:World}
theorem Ch.refl(C H:Heap):Ch C H C H:=fun _=>.inl ⟨rfl,rfl⟩
theorem Ch.trans(a:Ch C H C1 H1)(b:Ch C1 H1 C2 H2):Ch C H C2 H2:=fun x=>by
 rcases a x with⟨a1,a2⟩|⟨a1,a2⟩ <;> rcases b x with⟨b1,b2⟩|⟨b1,b2⟩
 ·exact .inl ⟨b1.trans a1,b2.trans a2⟩
 ·exact .inr ⟨b1,by rw[←a2,b2,a1]⟩
 ·exact .inr ⟨by rw[b2,a1,b1],a2⟩
 ·exact .inr ⟨b1,a2⟩
theorem After.refl(h:HR P base ι C w)(n:Nat)(H:Heap):After P base ι C H n w ι C H n w :=
 ⟨Inj.le_refl ι,fun _ _=>rfl,Ch.refl C H,fun _ h=>absurd rfl h,h,Below.refl _ _⟩
theorem After.trans(a:After P base ι C H n w κ C1 H1 n1 w1)(b:After P base κ C1 H1 n1 w1 μ C2 H2 n2 w2)(h1:n≤n1)(h2:n1≤n2):After P base ι C H n w μ C2 H2 n2 w2:=by
 refine⟨Inj.le_trans a.le b.le,fun x hx=>?_,a.ch.trans b.ch,fun x hx=>?_,b.hr,a.below.trans b.below⟩
 ·rw[b.out x (by omega),a.out x (by omega)]
 ·by_cases h:H2 x=H1 x
  ·have h1:H1 x≠H x:=fun e=>hx (h.trans e)
   intro e
   cases hk:κ x with
   | none=>exact a.seen x h1 hk
   | some t=>rw[b.le x t hk]at e;cases e
  ·exact b.seen x h
theorem After.pres(a:After P base ι C H n w κ C1 H1 n1 w1)(hp:Pres ι C H)(hw:WF n H):Pres κ C1 H1:=by
 intro x hx hd
 rcases a.ch x with⟨h1,h2⟩|⟨h1,_⟩
 ·by_cases hi:ι x=none
  ·by_cases hr:n≤x∧x<n1
   ·rw[h1,hw x hr.1]at hd;exact absurd rfl hd
   ·rw[a.out x hr]at hx;exact absurd hi hx
  ·rw[h2,h1];exact hp x hi (h1 ▸ hd)
 ·exact h1
theorem After.fresh(a:After P base ι C H n w κ C1 H1 n1 w1)(hf:Fresh ι n n2)(h:n≤n1):Fresh κ n1 n2:=by
 intro x h1 h2
 rw[a.out x (by omega)]
 exact hf x (by omega) h2
def FR(ι:Inj)(nt:Nat)(f:Fr)(tmps:Array Value):Prop:=tmps.size=nt∧∀t,t<nt→VR ι (f t) (tmps.getD t undef)
theorem FR.mono{nt:Nat}{f:Fr}{tmps:Array Value}(h:FR ι nt f tmps)(hle:Inj.le ι κ):FR κ nt f tmps:=⟨h.1,fun t ht=>(h.2 t ht).mono hle⟩
theorem put_getD(tmps:Array Value)(d:Nat)(v:Value)(t:Nat)(hd:d<tmps.size):(tmps.setIfInBounds d v).getD t undef=if t=d then v else tmps.getD t undef:=by
 simp only[Array.getD_eq_getD_getElem?,Array.getElem?_setIfInBounds]
 by_cases h:d=t
 ·subst h;simp[hd]
 ·simp[h,Ne.symm h]
theorem FR.put{nt:Nat}{f:Fr}{a:Act}(h:FR ι nt f a.tmps){d:Option Nat}(hd:(match d with|some d=>decide (d<nt)|none=>true)=true){v v':Value}(hv:VR ι v v') :
  FR ι nt (fput f d v) (a.put d v').tmps:=by
 cases d with
 | none=>exact h
 | some d =>
  have hd':d<nt:=by simpa using hd
  refine⟨by simp[Act.put,h.1],fun t ht=>?_⟩
  show VR ι (fset f d v t) ((a.tmps.setIfInBounds d v').getD t undef)
  rw[fset_apply,put_getD _ _ _ _ (by rw[h.1];exact hd')]
  by_cases e:t=d
  ·simp[e,hv]
  ·simp only[e,if_false];exact h.2 t ht
theorem eval_rel{ng nt:Nat}{f:Fr}{a:Act}{x:Operand}(hG:∀g,g<ng→ι g=some ⟨g,0,false,0,0⟩)(hok:operandOK ng nt x=true)(h:∀t,x=.tmp t→VR ι (f t) (a.tmps.getD t undef)):VR ι (evalA f x) (a.eval x):=by
 cases x with
 | tmp t=>exact h t rfl
 | const v=>exact still_refl ι hok
 | global g=>exact .ptr g 0 _ (hG g (by simpa [operandOK] using hok))
 | func g=>exact .func g _ _ _ _ rfl rfl (fun i v v' e=>by simp at e) (fun i v v' e=>by simp at e)
structure StepOK(P:Program)(nt:Nat)(all:Array Oper)(o:Oper)(r:Rec):Prop where
 mono:Mono r.pre.n r.pre.H r.n r.H
 turned:r.call=false→WF r.pre.n r.pre.H→∀x,r.H x≠r.pre.H x→(r.pre.n≤x∧x<r.n)∨r.wr=some x
 live:∀x,x∈r.rd∨r.wr=some x→r.pre.H x≠.dead
 wr:r.wr≠none→mayWrite o=true
 rd:r.rd≠[]→mayTouch o=true
 call:r.call=true→isCall o=true
 exec:WF r.pre.n r.pre.H→∀(base:Nat) (ι:Inj) (C:Heap) (a:Act) (w:World),a.tmps.size=nt→(∀t∈o.looksAt all,VR ι (r.pre.f t) (a.tmps.getD t undef))→HR P base ι C w →
  (∀x,(r.call=true∧r.pre.H x≠.dead)∨x∈r.rd∨r.wr=some x→ι x≠none→C x=r.pre.H x)→Fresh ι r.pre.n r.n →
  ∀(K:Act→World→Prop) (Q:Exit→Act→World→Prop),
   (∀v' w' κ C',VR κ r.v v'→After P base ι C r.pre.H r.pre.n w κ C' r.H r.n w'→K (a.put o.dst v') w') →
   if Region.wanted o (yielded all a.tmps) then o.wp P a w K Q else K (a.put o.dst undef) w
theorem wanted_iff{ng nt:Nat}{all:Array Oper}{o:Oper}{f:Fr}{a:Act}(hok:operOK ng nt all o=true)(hsz:a.tmps.size=nt)(h:∀t∈o.looksAt all,VR ι (f t) (a.tmps.getD t undef)) :
  Region.wanted o (yielded all a.tmps)=wantedA all f o:=by
 unfold Region.wanted wantedA
 cases hg:o.guard with
 | none=>rfl
 | some p =>
  obtain⟨j,want⟩:=p
  simp only[yielded]
  simp only[operOK,hg,Bool.and_eq_true]at hok
  cases hd:(all[j]?).bind (·.dst)with
  | none=>simp
  | some d =>
   simp only[hd,decide_eq_true_eq]at hok
   have hdn:d<nt:=hok.1.2
   have hin:d∈o.looksAt all:=by
    unfold Oper.looksAt
    simp only[hg,hd,List.mem_append]
    exact .inr (by simp)
   have hr:=h d hin
   have hlt:d<a.tmps.size:=by rw[hsz];exact hdn
   have hget:a.tmps[d]? = some (a.tmps.getD d undef):=by
    rw[Array.getD_eq_getD_getElem?,Array.getElem?_eq_getElem hlt];rfl
   simp only[Option.bind_some,hget]
   generalize a.tmps.getD d undef=u at hr
   generalize f d=v at hr
   cases hr <;> simp[nanV]
theorem operands_rel{ng nt:Nat}{all:Array Oper}{o:Oper}{f:Fr}{a:Act}(hG:∀g,g<ng→ι g=some ⟨g,0,false,0,0⟩)(hok:operOK ng nt all o=true)(h:∀t∈o.looksAt all,VR ι (f t) (a.tmps.getD t undef)) :
  ∀x∈o.op.operands,VR ι (evalA f x) (a.eval x):=by
 intro x hx
 simp only[operOK,Bool.and_eq_true,List.all_eq_true]at hok
 refine eval_rel hG (hok.1.1.2 x (by simpa using hx)) fun t e=>h t ?_
 subst e
 unfold Oper.looksAt
 simp only[List.mem_append,List.mem_filterMap]
 exact .inl ⟨_,by simpa using hx,rfl⟩
theorem patch_ch(hp:∀x,H1 x≠H x→C x=H x):Ch C H (patch C H H1) H1:=fun x=>by
 by_cases h:H1 x=H x
 ·exact .inl ⟨h,patch_eq h⟩
 ·exact .inr ⟨patch_ne h,hp x h⟩
theorem res_heap{r:Res}{x:Nat}(h:r.heap n H x≠H x):(r.news≠[]∧x=n)∨∃o,r.wr=some (x,o):=by
 unfold Res.heap at h
 cases hw:r.wr with
 | none =>
  simp only[hw]at h
  cases hn:r.news with
  | nil=>simp[hn]at h
  | cons o l =>
   simp only[hn]at h
   by_cases e:x=n
   ·exact .inl ⟨by simp,e⟩
   ·rw[hset_other _ _ e]at h;exact absurd rfl h
 | some p =>
  obtain⟨y,ob⟩:=p
  simp only[hw]at h
  cases hn:r.news with
  | nil =>
   simp only[hn]at h
   by_cases e:x=y
   ·subst e;exact .inr ⟨ob,rfl⟩
   ·rw[hset_other _ _ e]at h;exact absurd rfl h
  | cons o l =>
   simp only[hn]at h
   by_cases e:x=n
   ·exact .inl ⟨by simp,e⟩
   ·rw[hset_other _ _ e]at h
    by_cases e2:x=y
    ·subst e2;exact .inr ⟨ob,rfl⟩
    ·rw[hset_other _ _ e2]at h;exact absurd rfl h
theorem heap_mono{r:Res}(hw:∀x ob,r.wr=some (x,ob)→H x≠.dead):Mono n H (r.next n) (r.heap n H):=by
 have hle:n≤r.next n:=by unfold Res.next;split <;> omega
 refine⟨hle,fun hwf x hx=>?_,fun x hx hd=>?_⟩
 ·by_cases h:r.heap n H x=H x
  ·rw[h];exact hwf x (Nat.le_trans hle hx)
  ·rcases res_heap h with⟨h1,h2⟩|⟨ob,h1⟩
   ·subst h2
    exfalso
    unfold Res.next at hx
    cases hn:r.news with
    | nil=>exact h1 hn
    | cons a l=>rw[hn]at hx;simp at hx;omega
   ·exact absurd (hwf x (Nat.le_trans hle hx)) (hw x ob h1)
 ·by_cases h:r.heap n H x=H x
  ·rw[h];exact hd
  ·rcases res_heap h with⟨_,h2⟩|⟨ob,h1⟩
   ·omega
   ·exact absurd hd (hw x ob h1)
structure Facts(H:Heap)(o:Oper)(r:Res):Prop where
 rd:∀x∈r.rd,H x≠.dead
 wr:∀x ob,r.wr=some (x,ob)→H x≠.dead
 mw:r.wr≠none→mayWrite o=true
 mt:r.rd≠[]→mayTouch o=true
theorem facts_plain(H:Heap)(o:Oper){r:Res}(h1:r.rd=[])(h2:r.wr=none):Facts H o r :=
 ⟨fun x h=>by(rw[h1]at h;cases h),fun x ob h=>by(rw[h2]at h;cases h),fun h=>absurd h2 h,fun h=>absurd h1 h⟩
theorem facts_ok(H:Heap)(o:Oper){v:Option Value}{r:Res}(h:ok v=some r):Facts H o r:=by
 unfold ok at h
 obtain⟨u,_,rfl⟩:=Option.map_eq_some_iff.1 h
 exact facts_plain H o rfl rfl
theorem facts_flat(H:Heap){ρ:Operand→Value}{o:Oper}{r:Res}(h:aflat P ρ o=some r):Facts H o r:=by
 unfold aflat at h
 split at h
 case isFalse =>
  unfold asnil at h
  split at h
  case h_2=>cases h
  split at h
  ·split at h <;> first|(cases h;done)|(cases h;exact facts_plain H o rfl rfl)
  ·split at h <;> first|(cases h;done)|(cases h;exact facts_plain H o rfl rfl)
  ·cases h
 split at h
 case h_2=>cases h
 split at h
 case isFalse=>cases h
 cases h
 exact facts_plain H o rfl rfl
theorem facts_box(o:Oper){t:TypeId}{v:Value}{r:Res}(h:abox n t v=some r):Facts H o r:=by
 unfold abox at h
 split at h
 case isFalse=>cases h
 cases h
 exact facts_plain H o rfl rfl
theorem src_live{size:Nat}{x:Value}{ys:List Value}{rd:List Nat}{m:Nat}(h:asrc H size x=some (ys,rd,m)):∀y∈rd,H y≠.dead:=by
 unfold asrc at h
 split at h
 ·cases h;intro y hy;cases hy
 ·rename_i y k m' c'
  split at h
  case h_2=>cases h
  rename_i cs ty own hy
  split at h
  case isFalse=>cases h
  cases h
  intro z hz
  simp at hz
  subst hz
  rw[hy];intro e;cases e
 ·rename_i y k sp m' c'
  split at h
  case h_2=>cases h
  rename_i cs ty own hy
  split at h
  case isFalse=>cases h
  cases h
  intro z hz
  simp at hz
  subst hz
  rw[hy];intro e;cases e
 ·split at h
  case isFalse=>cases h
  cases h;intro y hy;cases hy
 ·cases h
theorem facts_slice(o:Oper)(hm:mayTouch o=true){t:TypeId}{x:Value}{lo hi:Option Value}{r:Res}(h:aslice P H t x lo hi=some r):Facts H o r:=by
 unfold aslice at h
 split at h
 ·split at h
  case h_2=>cases h
  rename_i y k len cc _ j l hh cs ty own _ _ _ hy
  split at h
  case isFalse=>cases h
  cases h
  exact⟨fun z hz=>(by simp at hz;subst hz;rw[hy];intro e;cases e),fun _ _ e=>(by cases e),fun e=>absurd rfl e,fun _=>hm⟩
 ·split at h
  case h_2=>cases h
  cases h;exact facts_plain _ _ rfl rfl
 ·split at h
  case h_2=>cases h
  split at h
  case isFalse=>cases h
  cases h;exact facts_plain _ _ rfl rfl
 ·split at h
  case h_2=>cases h
  split at h
  case isFalse=>cases h
  cases h;exact facts_plain _ _ rfl rfl
 ·cases h
theorem facts_string(o:Oper)(hm:mayTouch o=true){s d:TypeId}{x:Value}{r:Res}(h:astring P s d H x=some r):Facts H o r:=by
 unfold astring at h
 split at h
 case h_2=>cases h
 split at h
 ·cases h;exact facts_plain _ _ rfl rfl
 ·split at h
  case h_2=>cases h
  rename_i cs ty own hy
  split at h
  case isFalse=>cases h
  obtain⟨xs,_,rfl⟩:=Option.map_eq_some_iff.1 h
  exact⟨fun z hz=>(by simp at hz;subst hz;rw[hy];intro e;cases e),fun _ _ e=>(by cases e),fun e=>absurd rfl e,fun _=>hm⟩
 ·split at h
  case h_2=>cases h
  rename_i cs ty own hy
  split at h
  case isFalse=>cases h
  obtain⟨xs,_,rfl⟩:=Option.map_eq_some_iff.1 h
  exact⟨fun z hz=>(by simp at hz;subst hz;rw[hy];intro e;cases e),fun _ _ e=>(by cases e),fun e=>absurd rfl e,fun _=>hm⟩
 ·cases h
theorem facts_unsafe(o:Oper)(hm:mayTouch o=true){s d:TypeId}{y k:Nat}{r:Res}(h:aunsafe P s d H y k=some r):Facts H o r:=by
 unfold aunsafe at h
 split at h
 ·split at h
  case h_2=>cases h
  rename_i cs ty own j hy hj
  split at h
  case isFalse=>cases h
  cases h
  exact⟨fun z hz=>(by simp at hz;subst hz;rw[hy];intro e;cases e),fun _ _ e=>(by cases e),fun e=>absurd rfl e,fun _=>hm⟩
 ·split at h
  case h_2=>cases h
  rename_i cs ty j hy hj
  split at h
  case isFalse=>cases h
  cases h
  exact⟨fun z hz=>(by simp at hz;subst hz;rw[hy];intro e;cases e),fun _ _ e=>(by cases e),fun e=>absurd rfl e,fun _=>hm⟩
 ·cases h
theorem facts_grow(o:Oper)(hm:mayWrite o=true)(ht:mayTouch o=true){ts:Array TypeId}{s x:Value}{r:Res}(h:agrow P n H ts s x=some r):Facts H o r:=by
 unfold agrow at h
 split at h
 case h_2=>cases h
 split at h
 case h_2=>cases h
 split at h
 case h_2=>cases h
 split at h
 case isTrue=>cases h
 split at h
 case h_2=>cases h
 rename_i ys rd m hsrc
 have hl:=src_live hsrc
 split at h
 ·split at h
  case isTrue=>cases h
  cases h
  exact⟨hl,fun _ _ e=>(by cases e),fun e=>absurd rfl e,fun _=>ht⟩
 ·split at h
  case h_2=>cases h
  rename_i cs ty hy
  split at h
  case isFalse=>cases h
  cases h
  exact⟨hl,fun z ob e=>(by cases e;rw[hy];intro e;cases e),fun _=>hm,fun _=>ht⟩
 ·cases h
theorem facts_lookup(o:Oper)(hm:mayTouch o=true){t:TypeId}{x k:Value}{b:Bool}{r:Res}(h:alookup P t H x k b=some r):Facts H o r:=by
 unfold alookup at h
 split at h
 case h_2=>cases h
 split at h
 case h_2=>cases h
 rename_i y _ es clock kt hy
 split at h
 case isFalse=>cases h
 split at h
 ·split at h
  case h_2=>cases h
  cases h
  exact⟨fun z hz=>(by simp at hz;subst hz;rw[hy];intro e;cases e),fun _ _ e=>(by cases e),fun e=>absurd rfl e,fun _=>hm⟩
 ·split at h
  case h_2=>cases h
  split at h
  case isFalse=>cases h
  cases h
  exact⟨fun z hz=>(by simp at hz;subst hz;rw[hy];intro e;cases e),fun _ _ e=>(by cases e),fun e=>absurd rfl e,fun _=>hm⟩
 ·cases h
theorem facts_mapset(o:Oper)(hm:mayWrite o=true){t:TypeId}{m k v:Value}{r:Res}(h:amapset P t H m k v=some r):Facts H o r:=by
 unfold amapset at h
 split at h
 case h_2=>cases h
 split at h
 case h_2=>cases h
 rename_i y _ es clock kt hy
 split at h
 case isFalse=>cases h
 split at h
 ·cases h
  exact⟨fun z hz=>(by cases hz),fun z ob e=>(by cases e;rw[hy];intro e;cases e),fun _=>hm,fun e=>absurd rfl e⟩
 ·cases h
  exact⟨fun z hz=>(by cases hz),fun z ob e=>(by cases e;rw[hy];intro e;cases e),fun _=>hm,fun e=>absurd rfl e⟩
 ·cases h
theorem aop_facts{ρ:Operand→Value}{o:Oper}{r:Res}(h:aop P ρ n H o=some r):Facts H o r:=by
 obtain⟨dst,op,type,pos,after,guard⟩:=o
 unfold aop at h
 simp only at h
 split at h
 ·cases h;exact facts_plain _ _ rfl rfl
 ·cases h;exact facts_plain _ _ rfl rfl
 ·split at h
  case h_2=>cases h
  cases h;exact facts_plain _ _ rfl rfl
 ·unfold aalloc at h
  split at h
  case h_2=>cases h
  split at h
  case isFalse=>cases h
  exact facts_box _ h
 ·exact facts_box _ h
 ·exact facts_ok _ _ h
 ·unfold abuildSlice at h
  split at h
  case h_2=>cases h
  split at h
  case h_2=>cases h
  split at h
  case isTrue=>cases h
  obtain⟨cs,_,rfl⟩:=Option.map_eq_some_iff.1 h
  exact facts_plain _ _ rfl rfl
 ·unfold aload at h
  split at h
  case h_2=>cases h
  split at h
  case h_3=>cases h
  all_goals
   rename_i x k hk _ cs ty own hx
   have hd:H x≠.dead:=by rw[hx];intro e;cases e
   split at h
   ·split at h
    case isFalse=>cases h
    cases h
    exact⟨fun y hy=>(by simp at hy;subst hy;exact hd),fun _ _ e=>(by cases e),fun e=>absurd rfl e,fun _=>rfl⟩
   ·split at h
    case h_2=>cases h
    cases h
    exact⟨fun y hy=>(by simp at hy;subst hy;exact hd),fun _ _ e=>(by cases e),fun e=>absurd rfl e,fun _=>rfl⟩
   ·cases h
 ·unfold astore at h
  split at h
  case h_2=>cases h
  split at h
  case h_2=>cases h
  rename_i x k hk _ cs ty hx
  have hd:H x≠.dead:=by rw[hx];intro e;cases e
  split at h
  case h_2=>cases h
  split at h
  case isFalse=>cases h
  cases h
  exact⟨fun y hy=>(by cases hy),fun y ob e=>(by cases e;exact hd),fun _=>rfl,fun e=>absurd rfl e⟩
 ·split at h
  ·cases h;exact facts_plain _ _ rfl rfl
  ·cases h;exact facts_plain _ _ rfl rfl
  ·cases h
 ·split at h
  ·split at h
   ·cases h;exact facts_plain _ _ rfl rfl
   ·cases h;exact facts_plain _ _ rfl rfl
   ·cases h
  ·split at h
   ·cases h;exact facts_plain _ _ rfl rfl
   ·exact facts_flat H h
 ·cases h;exact facts_plain _ _ rfl rfl
 ·unfold amakeSlice at h
  split at h
  case h_2=>cases h
  split at h
  case h_2=>cases h
  split at h
  case isFalse=>cases h
  cases h;exact facts_plain _ _ rfl rfl
 ·split at h
  ·exact facts_slice _ rfl h
  ·exact facts_slice _ rfl h
  ·exact facts_flat H h
 ·exact facts_ok _ _ h
 ·exact facts_ok _ _ h
 ·exact facts_ok _ _ h
 ·split at h
  ·exact facts_ok _ _ h
  ·exact facts_flat H h
 ·split at h
  case h_2=>cases h
  exact facts_ok _ _ h
 ·split at h
  case h_2=>cases h
  unfold alen at h
  split at h
  ·cases h;exact facts_plain _ _ rfl rfl
  ·cases h;exact facts_plain _ _ rfl rfl
  ·cases h;exact facts_plain _ _ rfl rfl
  ·split at h
   case h_2=>cases h
   rename_i es clock kt hy
   cases h
   exact⟨fun z hz=>(by simp at hz;subst hz;rw[hy];intro e;cases e),fun _ _ e=>(by cases e),fun e=>absurd rfl e,fun _=>rfl⟩
  ·cases h
 ·split at h
  case h_2=>cases h
  split at h
  case h_2=>exact facts_grow _ rfl rfl h
  unfold aappend at h
  split at h
  case h_2=>cases h
  split at h
  case h_2=>cases h
  split at h
  case h_2=>cases h
  split at h
  case isTrue=>cases h
  split at h
  case h_2=>cases h
  rename_i ys rd m hsrc
  have hl:=src_live hsrc
  split at h
  ·split at h
   case isTrue=>cases h
   split at h
   ·cases h
    exact⟨hl,fun _ _ e=>(by cases e),fun e=>absurd rfl e,fun _=>rfl⟩
   ·cases h
    exact⟨hl,fun _ _ e=>(by cases e),fun e=>absurd rfl e,fun _=>rfl⟩
  ·split at h
   case h_2=>cases h
   rename_i cs ty hy
   split at h
   case isFalse=>cases h
   cases h
   exact⟨hl,fun z ob e=>(by cases e;rw[hy];intro e;cases e),fun _=>rfl,fun _=>rfl⟩
  ·cases h
 ·split at h
  case h_2=>cases h
  unfold aclear at h
  split at h
  case h_2=>cases h
  split at h
  case h_2=>cases h
  rename_i elem cs ty ht hy
  split at h
  case h_2=>cases h
  split at h
  case isFalse=>cases h
  cases h
  exact⟨fun y hy=>(by cases hy),fun y ob e=>(by cases e;rw[hy];intro e;cases e),fun _=>rfl,fun e=>absurd rfl e⟩
 ·split at h
  case h_2=>cases h
  split at h
  case h_2=>cases h
  cases h;exact facts_plain _ _ rfl rfl
 ·split at h
  case h_2=>cases h
  unfold aunstr at h
  split at h
  case h_2=>cases h
  split at h
  ·rename_i cs ty j hy hj
   split at h
   case isFalse=>cases h
   obtain⟨xs,_,rfl⟩:=Option.map_eq_some_iff.1 h
   exact⟨fun z hz=>(by simp at hz;subst hz;rw[hy];intro e;cases e),fun z ob e=>(by cases e;rw[hy];intro e;cases e),fun _=>rfl,fun _=>rfl⟩
  ·rename_i cs ty j hy hj
   split at h
   case isFalse=>cases h
   cases h
   exact⟨fun z hz=>(by simp at hz;subst hz;rw[hy];intro e;cases e),fun z ob e=>(by cases e;rw[hy];intro e;cases e),fun _=>rfl,fun _=>rfl⟩
  ·cases h
 ·split at h
  case h_2=>cases h
  split at h
  case isFalse=>cases h
  exact facts_ok _ _ h
 ·cases h
 ·split at h
  ·exact facts_string _ rfl h
  ·exact facts_unsafe _ rfl h
  ·exact facts_flat H h
 ·exact facts_lookup _ rfl h
 ·exact facts_mapset _ rfl h
 ·exact facts_mapset _ rfl h
 ·split at h
  case h_2=>cases h
  cases h;exact facts_plain _ _ rfl rfl
 ·exact facts_flat H h
 ·exact facts_flat H h
 ·exact facts_flat H h
 ·cases h
end
end Go.AM
namespace Go.AM
open Go.RowKit
section
variable {P:Program} {nt:Nat} {all:Array Oper} {o:Oper}
theorem step_skip{s:St}(hok:operOK (ngl P) nt all o=true)(hw:wantedA all s.f o=false):StepOK P nt all o ⟨s,undef,s.n,s.H,[],none,false⟩:=by
 refine⟨Mono.refl _ _,fun _ _ x h=>absurd rfl h,fun x h=>?_,fun h=>absurd rfl h,fun h=>absurd rfl h,fun h=>by(cases h),?_⟩
 ·rcases h with h|h
  ·cases h
  ·cases h
 ·intro _ base ι C a w hsz hl hR _ _ K Q hK
  rw[wanted_iff hok hsz hl,hw]
  simp only[Bool.false_eq_true,if_false]
  exact hK undef w ι C (undef_refl ι) (After.refl hR _ _)
theorem upon_of_good{a:Act}{w w':World}{nx:Next}{v':Value}{K:Act→World→Prop}{Q:Exit→Act→World→Prop}(hr:(execOp a.eval o).run P w=.ok nx w')
  (hnx:nx=.value v'∨(nx=.skip∧v'=undef)) (hK:K (a.put o.dst v') w'):o.wp P a w K Q:=by
 unfold Oper.wp
 rw[hr]
 rcases hnx with rfl|⟨rfl,rfl⟩
 ·exact hK
 ·exact hK
theorem step_op{s:St}{r:Res}(hok:operOK (ngl P) nt all o=true)(hw:wantedA all s.f o=true)(h:aop P (evalA s.f) s.n s.H o=some r) :
  StepOK P nt all o ⟨s,r.v,r.next s.n,r.heap s.n s.H,r.rd,r.wr.map (·.1),false⟩:=by
 have F:=aop_facts h
 have hwr:∀x,r.wr.map (·.1)=some x→∃ob,r.wr=some (x,ob):=by
  intro x e
  obtain⟨p,h1,h2⟩:=Option.map_eq_some_iff.1 e
  obtain⟨y,ob⟩:=p
  simp at h2
  subst h2
  exact⟨ob,h1⟩
 refine⟨heap_mono F.wr,fun _ _ x hx=>?_,fun x hx=>?_,fun hx=>F.mw ?_,F.mt,fun e=>by(cases e),?_⟩
 ·rcases res_heap hx with⟨h1,h2⟩|⟨ob,h1⟩
  ·left
   subst h2
   refine⟨Nat.le_refl _,?_⟩
   show s.n<r.next s.n
   unfold Res.next
   cases hn:r.news with
   | nil=>exact absurd hn h1
   | cons a l=>exact Nat.lt_succ_self _
  ·right;simp[h1]
 ·rcases hx with hx|hx
  ·exact F.rd x hx
  ·obtain⟨ob,h1⟩:=hwr x hx;exact F.wr x ob h1
 ·intro e;rw[e]at hx;exact hx rfl
 ·intro hwf base ι C a w hsz hl hR hp hf K Q hK
  rw[wanted_iff hok hsz hl,hw]
  simp only[if_true]
  have hn:r.news≠[]→ι s.n=none∧s.H s.n=.dead:=by
   intro hne
   refine⟨hf s.n (Nat.le_refl _) ?_,hwf _ (Nat.le_refl _)⟩
   show s.n<r.next s.n
   unfold Res.next
   cases hn:r.news with
   | nil=>exact absurd hn hne
   | cons a l=>exact Nat.lt_succ_self _
  have hwr':∀x ob,r.wr=some (x,ob)→ι x≠none→C x=s.H x:=fun x ob e hi=>hp x (.inr (.inr (by simp[e]))) hi
  obtain⟨nx,w',κ,v',h1,h2,h3,h4,h5,h6,h7,h8,h9⟩:=aop_sound hR h (operands_rel hR.gl hok hl) (fun x hx hi=>hp x (.inr (.inl hx)) hi) hwr' hn rfl
  refine upon_of_good h1 h2 (hK v' w' κ _ h3 ⟨h4,fun x hx=>?_,patch_ch fun x hx=>?_,fun x hx=>?_,h6,h7⟩)
  ·by_cases hne:r.news=[]
   ·exact h5 x (.inr hne)
   ·refine h5 x (.inl fun e=>hx ⟨Nat.le_of_eq e.symm,?_⟩)
    subst e
    show s.n<r.next s.n
    unfold Res.next
    cases hn:r.news with
    | nil=>exact absurd hn hne
    | cons a l=>exact Nat.lt_succ_self _
  ·rcases res_heap hx with⟨e1,e2⟩|⟨ob,e1⟩
   ·subst e2
    obtain⟨g1,g2⟩:=hn e1
    rw[g2]
    by_cases hd:C s.n=.dead
    ·exact hd
    ·obtain⟨t,ht⟩:=(hR.obj s.n).tgt hd
     rw[g1]at ht;cases ht
   ·exact hwr' x ob e1 (h8 x ob e1)
  ·rcases res_heap hx with⟨e1,e2⟩|⟨ob,e1⟩
   ·subst e2;exact h9 e1
   ·intro e
    have:=h8 x ob e1
    cases hi:ι x with
    | none=>exact this hi
    | some t=>rw[h4 x t hi]at e;cases e
theorem callee_run{ρ ρ':Operand→Value}{g:FuncId}{args:List Value}{fn:Func}{c:Code}{ι:Inj}(h:acallee ρ o=some (g,args))(hf:FnOK P g fn c)(hρ:∀x∈o.op.operands,VR ι (ρ x) (ρ' x))(w:World) :
  isCall o=true∧∃args',VRs ι args args'∧(execOp ρ' o).run P w=.ok (.enter g args'.toArray) w:=by
 obtain⟨dst,op,type,pos,after,guard⟩:=o
 unfold acallee at h
 simp only at h
 split at h
 case h_2=>cases h
 rename_i q qs tys
 split at h
 case h_2=>cases h
 rename_i g' first captured hg
 simp only[Option.some.injEq,Prod.mk.injEq]at h
 obtain⟨rfl,rfl⟩:=h
 refine⟨rfl,?_⟩
 have hq:=hρ q (by simp[Op.operands,Call.operands])
 rw[hg]at hq
 generalize hq':ρ' q=q' at hq
 cases hq with
 | func _ _ _ a' b' ha hb hra hrb =>
  have hargs:=VRs_map (ι:=ι) (ρ:=ρ) (ρ':=ρ') (l:=qs.toList) (fun x hx=>hρ x (by simp[Op.operands,Call.operands];exact .inr (by simpa using hx)))
  refine⟨a'.toList++qs.toList.map ρ'++b'.toList,((VRs.of_arrays ha hra).append hargs).append (VRs.of_arrays hb hrb),?_⟩
  have hn : fn.name ≠ "runtime.NumGoroutine" := by simpa using hf.name
  have hc:∀as:Array Value,(callFunc g' as).run P w=.ok (.enter g' as) w:=by
   intro as
   simp[callFunc,hf.get,hn,hf.body]
  have he:(a'.toList++qs.toList.map ρ'++b'.toList).toArray=a'++qs.map ρ'++b':=by apply Array.ext';simp
  rw[he]
  simp[execOp,resolve,hq',Deferred.ofValue,invoke,hc]
theorem step_call{s:St}{g:FuncId}{args:List Value}{v:Value}{n:Nat}{H:Heap}{fn:Func}{c:Code}(hok:operOK (ngl P) nt all o=true)(hw:wantedA all s.f o=true)
  (h:acallee (evalA s.f) o=some (g,args)) (hf:FnOK P g fn c) (hm:Mono s.n s.H n H) (hc:CallSound P g args s.n s.H v n H) :
  StepOK P nt all o ⟨s,v,n,H,[],none,true⟩:=by
 refine⟨hm,fun e=>by(cases e),fun x hx=>?_,fun e=>absurd rfl e,fun e=>absurd rfl e,fun _=>?_,?_⟩
 ·rcases hx with hx|hx
  ·cases hx
  ·cases hx
 ·obtain⟨dst,op,type,pos,after,guard⟩:=o
  unfold acallee at h
  simp only at h
  split at h
  case h_2=>cases h
  rfl
 ·intro hwf base ι C a w hsz hl hR hp hfr K Q hK
  rw[wanted_iff hok hsz hl,hw]
  simp only[if_true]
  obtain⟨_,args',hv,hrun⟩:=callee_run h hf (operands_rel hR.gl hok hl) w
  unfold Oper.wp
  rw[hrun,Oper.upon_enter]
  refine(hc hwf base ι C w args' hv hR (fun x hi hd=>hp x (.inl ⟨rfl,hd⟩) hi) hfr).mono ?_
  rintro e w' ⟨v',κ,C',rfl,hvr,ha⟩
  exact hK v' w' κ C' hvr ha
inductive Chain(P:Program)(nt:Nat)(all:Array Oper):List Oper→St→List Rec→St→Prop where
 | nil (s:St):Chain P nt all [] s [] s
 | cons {o:Oper} {rest:List Oper} {r:Rec} {l:List Rec} {s1:St}:StepOK P nt all o r→Chain P nt all rest ⟨fput r.pre.f o.dst r.v,r.n,r.H⟩ l s1→Chain P nt all (o::rest) r.pre (r::l) s1
theorem Chain.mono{rest:List Oper}{s s1:St}{l:List Rec}(h:Chain P nt all rest s l s1):Mono s.n s.H s1.n s1.H:=by
 induction h with
 | nil s=>exact Mono.refl _ _
 | cons hs _ ih=>exact hs.mono.trans ih
theorem looks_lt(hok:operOK (ngl P) nt all o=true):∀t∈o.looksAt all,t<nt:=by
 intro t ht
 simp only[operOK,Bool.and_eq_true,List.all_eq_true]at hok
 unfold Oper.looksAt at ht
 rw[List.mem_append]at ht
 rcases ht with ht|ht
 ·obtain⟨x,hx,e⟩:=List.mem_filterMap.1 ht
  cases x <;> simp at e
  subst e
  have:=hok.1.1.2 _ (by simpa using hx)
  simpa [operandOK] using this
 ·cases hg:o.guard with
  | none=>simp[hg]at ht
  | some p =>
   obtain⟨j,want⟩:=p
   simp only[hg]at ht hok
   cases hd:(all[j]?).bind (·.dst)with
   | none=>simp[hd]at ht
   | some d =>
    simp[hd]at ht
    subst ht
    have:=hok.1.2
    simpa [hd] using this
theorem dst_ok(hok:operOK (ngl P) nt all o=true):(match o.dst with|some d=>decide (d<nt)|none=>true)=true:=by
 simp only[operOK,Bool.and_eq_true]at hok
 exact hok.1.1.1
theorem wp_text {Q : Exit → Act → World → Prop} : ∀ {rest : List Oper} {s s1 : St} {l : List Rec}, Chain P nt all rest s l s1 → ∀ (k : Nat), (∀ i o, rest[i]? = some o → all[k + i]? = some o) →
    (∀ o ∈ rest, operOK (ngl P) nt all o = true) → WF s.n s.H → ∀ (base : Nat) (ι : Inj) (C : Heap) (a : Act) (w : World), FR ι nt s.f a.tmps → HR P base ι C w → Pres ι C s.H → Fresh ι s.n s1.n →
    (∀ a' w' κ C', FR κ nt s1.f a'.tmps → a'.defers = a.defers → After P base ι C s.H s.n w κ C' s1.H s1.n w' → Q .normal a' w') → wpOps P all Q (List.range' k rest.length) a w := by
  intro rest s s1 l h
  induction h with
  | nil s =>
    intro k _ _ _ base ι C a w hF hR _ _ hK
    exact hK a w ι C hF rfl (After.refl hR _ _)
  | @cons o rest r l s1 hs hc ih =>
    intro k hk hok hwf base ι C a w hF hR hp hf hK
    have hko : all[k]? = some o := by simpa using hk 0 o (by simp)
    have hoo := hok o (by simp)
    simp only [List.length_cons, List.range'_succ]
    rw [wpOps_cons]
    unfold wpOp
    simp only [hko]
    have hle := hs.mono.le
    have hle2 := hc.mono.le
    have h1 := hs.exec hwf base ι C a w hF.1 (fun t ht => hF.2 t (looks_lt hoo t ht)) hR (fun x hx hi => hp x hi (by
        rcases hx with ⟨_, hx⟩ | hx
        · exact hx
        · exact hs.live x hx)) (fun x h1 h2 => hf x h1 (Nat.lt_of_lt_of_le h2 hle2)) (wpOps P all Q (List.range' (k + 1) rest.length)) Q
      (fun v' w' κ C' hv ha => by
        refine ih (k + 1) (fun i o' e => by rw [show k + 1 + i = k + (i + 1) by omega]; exact hk (i + 1) o' (by simpa using e)) (fun o' ho' => hok o' (by simp [ho'])) (hs.mono.wf hwf) base κ C' _ w'
          ((hF.mono ha.le).put (dst_ok hoo) hv) ha.hr (ha.pres hp hwf) (ha.fresh hf hle) ?_
        intro a' w'' μ C'' hF' hd ha'
        exact hK a' w'' μ C'' hF' (by rw [hd]; cases o.dst <;> rfl) (ha.trans ha' hle hle2))
    split
    · rename_i hw; simp only [hw, if_true] at h1; exact .inl h1
    · rename_i hw; simp only [hw] at h1; exact h1
end
end Go.AM
namespace Go.AM
open Go.RowKit
theorem foldl_bits(es:List Edge)(acc:List Nat)(i:Nat):∀m:Nat,
  (es.foldl (fun m e=>if Region.binds .any e then Nat.lor m (Nat.lor (2 ^ e.on) (acc.getD e.on 0)) else m) m).testBit i=true →
  m.testBit i=true∨∃e∈es,Region.binds .any e=true∧(e.on=i∨(acc.getD e.on 0).testBit i=true):=by
 induction es with
 | nil=>intro m h;exact .inl h
 | cons e es ih =>
  intro m h
  simp only[List.foldl_cons]at h
  rcases ih _ h with h|⟨e',h1,h2⟩
  ·split at h
   ·rename_i hb
    have h':(m ||| (2 ^ e.on ||| acc.getD e.on 0)).testBit i=true:=h
    rw[Nat.testBit_or,Nat.testBit_or,Bool.or_eq_true,Bool.or_eq_true,Nat.testBit_two_pow]at h'
    rcases h' with h'|h'|h'
    ·exact .inl h'
    ·exact .inr ⟨e,by simp,hb,.inl (by simpa using h')⟩
    ·exact .inr ⟨e,by simp,hb,.inr h'⟩
   ·exact .inl h
  ·exact .inr ⟨e',by simp[h1],h2⟩
theorem masksGo_old(rest:List Oper):∀(acc:List Nat) (j:Nat),j<acc.length→(masksGo acc rest).getD j 0=acc.getD j 0:=by
 induction rest with
 | nil=>intro acc j _;rfl
 | cons o rest ih =>
  intro acc j h
  simp only[masksGo]
  rw[ih _ j (by simp;omega)]
  simp[List.getD,List.getElem?_append_left h]
theorem masksGo_new (rest : List Oper) : ∀ (acc : List Nat) (j : Nat) (o : Oper) (i : Nat), rest[j]? = some o → ((masksGo acc rest).getD (acc.length + j) 0).testBit i = true →
    ∃ e ∈ o.after.toList, Region.binds .any e = true ∧ (e.on = i ∨ ((masksGo acc rest).getD e.on 0).testBit i = true) := by
  induction rest with
  | nil => intro acc j o i h; simp at h
  | cons o' rest ih =>
    intro acc j o i h hb
    cases j with
    | zero =>
      simp at h
      subst h
      simp only [masksGo, Nat.add_zero] at hb ⊢
      rw [masksGo_old _ _ _ (by simp)] at hb
      have : (acc ++ [o'.after.toList.foldl (fun m e => if Region.binds .any e then Nat.lor m (Nat.lor (2 ^ e.on) (acc.getD e.on 0)) else m) 0]).getD acc.length 0 =
          o'.after.toList.foldl (fun m e => if Region.binds .any e then Nat.lor m (Nat.lor (2 ^ e.on) (acc.getD e.on 0)) else m) 0 := by
        simp [List.getD]
      rw [this] at hb
      rcases foldl_bits _ _ _ _ hb with hb | ⟨e, h1, h2, h3⟩
      · simp at hb
      · refine ⟨e, h1, h2, h3.imp id fun h3 => ?_⟩
        by_cases hl : e.on < acc.length
        · rw [masksGo_old _ _ _ (by simp; omega)]
          simp only [List.getD, List.getElem?_append_left hl]
          exact h3
        · have : acc.getD e.on 0 = 0 := by simp [List.getD, List.getElem?_eq_none (Nat.le_of_not_lt hl)]
          rw [this] at h3; simp at h3
    | succ j =>
      simp only [masksGo]
      have := ih (acc ++ [o'.after.toList.foldl (fun m e => if Region.binds .any e then Nat.lor m (Nat.lor (2 ^ e.on) (acc.getD e.on 0)) else m) 0]) j o i (by simpa using h)
      simp only [List.length_append, List.length_cons, List.length_nil] at this
      refine this ?_
      simp only [masksGo] at hb
      rwa [show acc.length + (0 + 1) + j = acc.length + (j + 1) by omega]
theorem forced_edge{ops:Array Oper}{i j:Nat}{o:Oper}(ho:ops[j]? = some o)(h:forced (masks ops) i j=true) :
  ∃e∈o.after.toList,Region.binds .any e=true∧(e.on=i∨forced (masks ops) i e.on=true):=by
 have:=masksGo_new ops.toList [] j o i (by simpa using ho) (by simpa [forced,masks] using h)
 simpa [forced,masks] using this
def Back(ops:Array Oper):Prop:=∀j o,ops[j]? = some o→∀e∈o.after.toList,Region.binds .any e=true→e.on<j
theorem forced_in{ops:Array Oper}(hb:Back ops){S:Nat→Prop}(hS:∀j o,ops[j]? = some o→S j→∀e∈o.after.toList,Region.binds .any e=true→S e.on) :
  ∀(j:Nat),j<ops.size→∀i,(∀o,ops[j]? = some o→∀e∈o.after.toList,Region.binds .any e=true→S e.on)→forced (masks ops) i j=true→S i:=by
 intro j
 induction j using Nat.strongRecOn with
 | _ j ih =>
  intro hj i hpre h
  have ho:ops[j]? = some ops[j]:=Array.getElem?_eq_getElem hj
  obtain⟨e,h1,h2,h3⟩:=forced_edge ho h
  have hlt:=hb j _ ho e h1 h2
  have hSe:=hpre _ ho e h1 h2
  rcases h3 with h3|h3
  ·subst h3;exact hSe
  ·exact ih e.on hlt (by omega) i (fun o ho'=>hS e.on o ho' hSe) h3
structure Static(ops:Array Oper):Prop where
 back:Back ops
 pair:∀i j x y,i<j→ops[i]? = some x→ops[j]? = some y→forced (masks ops) i j=true ∨
  (x.apart ops y=true∧¬(isCall x=true∧mayWrite y=true)∧¬(isCall y=true∧mayWrite x=true))
theorem static_of {ops : Array Oper} (h : drawStatic ops = true) : Static ops := by
  unfold drawStatic at h
  simp only [Bool.and_eq_true, List.all_eq_true, List.mem_range, allPairs] at h
  obtain ⟨h1, h2⟩ := h
  refine ⟨fun j o ho e he hb => ?_, fun i j x y hij hx hy => ?_⟩
  · have hj : j < ops.size := by
      rcases Nat.lt_or_ge j ops.size with g | g
      · exact g
      · rw [Array.getElem?_eq_none g] at ho; cases ho
    have := h1 j hj
    rw [ho] at this
    simp only [List.all_eq_true] at this
    have := this e he
    simpa [hb] using this
  · have hj : j < ops.size := by
      rcases Nat.lt_or_ge j ops.size with g | g
      · exact g
      · rw [Array.getElem?_eq_none g] at hy; cases hy
    have := h2 j hj i hij
    rw [hx, hy] at this
    simp only [Bool.or_eq_true, Bool.and_eq_true, Bool.not_eq_true', Bool.and_eq_false_iff] at this
    rcases this with h | ⟨⟨h3, h4⟩, h5⟩
    · exact .inl h
    · refine .inr ⟨h3, ?_, ?_⟩
      · rintro ⟨a, b⟩; rcases h4 with h | h <;> simp_all
      · rintro ⟨a, b⟩; rcases h5 with h | h <;> simp_all
theorem mem_sPairs{ops:Array Oper}{i j:Nat}{x y:Oper}(hij:i<j)(hx:ops[i]? = some x)(hy:ops[j]? = some y)(hf:forced (masks ops) i j≠true)
  (h:(mayWrite x=true∧mayTouch y=true)∨(mayWrite y=true∧mayTouch x=true)):(i,j)∈sPairs ops:=by
 have hj:j<ops.size:=by
  rcases Nat.lt_or_ge j ops.size with g|g
  ·exact g
  ·rw[Array.getElem?_eq_none g]at hy;cases hy
 unfold sPairs
 simp only[List.mem_flatMap,List.mem_range,List.mem_filterMap]
 refine⟨j,hj,i,hij,?_⟩
 simp only[hx,hy]
 rw[if_pos]
 simp only[Bool.and_eq_true,Bool.not_eq_true',Bool.or_eq_true]
 exact⟨by simpa using hf,h⟩
theorem mayTouch_of_mayWrite{o:Oper}(h:mayWrite o=true):mayTouch o=true:=by
 unfold mayWrite at h
 unfold mayTouch
 split at h <;> first|(simp_all;done)|(cases h)
structure Tr(P:Program)(nt:Nat)(ops:Array Oper)(N:Nat)(st:Nat→St)(R:Nat→Rec):Prop where
 step:∀(j:Nat) (o:Oper),j<N→ops[j]? = some o→StepOK P nt ops o (R j)∧(R j).pre=st j∧st (j+1)=⟨fput (st j).f o.dst (R j).v,(R j).n,(R j).H⟩
theorem chain_tr{P:Program}{nt:Nat}{ops:Array Oper}:∀{rest:List Oper} {s s1:St} {l:List Rec},Chain P nt ops rest s l s1 →
  ∃(st:Nat→St) (R:Nat→Rec),st 0=s∧st rest.length=s1∧l.length=rest.length∧(∀j,j<rest.length→l[j]? = some (R j)) ∧
   ∀j o,rest[j]? = some o→StepOK P nt ops o (R j)∧(R j).pre=st j∧st (j+1)=⟨fput (st j).f o.dst (R j).v,(R j).n,(R j).H⟩:=by
 intro rest s s1 l h
 induction h with
 | nil s=>exact⟨fun _=>s,fun _=>⟨s,undef,s.n,s.H,[],none,false⟩,rfl,rfl,rfl,fun j hj=>by simp at hj,fun j o e=>by simp at e⟩
 | @cons o rest r l s1 hs hc ih =>
  obtain⟨st,R,h0,h1,h2,h3,h4⟩:=ih
  refine⟨fun j=>match j with|0=>r.pre|j+1=>st j,fun j=>match j with|0=>r|j+1=>R j,rfl,h1,by simp[h2],fun j hj=>?_,fun j o' e=>?_⟩
  ·cases j with
   | zero=>rfl
   | succ j=>simpa using h3 j (by simpa using hj)
  ·cases j with
   | zero=>simp at e;subst e;exact⟨hs,rfl,h0⟩
   | succ j=>exact h4 j o' (by simpa using e)
section
variable {P:Program} {nt:Nat} {ops:Array Oper} {st:Nat→St} {R:Nat→Rec}
noncomputable def foldC(st:Nat→St)(C0:Heap)(S:Nat→Prop):Nat→Heap
 | 0=>C0
 | j+1=>fun x=>open Classical in if S j∧(st (j+1)).H x≠(st j).H x then(st (j+1)).H x else foldC st C0 S j x
noncomputable def foldF(ops:Array Oper)(st:Nat→St)(R:Nat→Rec)(S:Nat→Prop):Nat→Fr
 | 0=>(st 0).f
 | j+1=>open Classical in if S j then fput (foldF ops st R S j) ((ops[j]?).bind (·.dst)) (R j).v else foldF ops st R S j
theorem foldC_yes{C0:Heap}{S:Nat→Prop}{j x:Nat}(h:S j)(hx:(st (j+1)).H x≠(st j).H x):foldC st C0 S (j+1) x=(st (j+1)).H x:=by
 simp only[foldC];rw[if_pos ⟨h,hx⟩]
theorem foldC_no{C0:Heap}{S:Nat→Prop}{j x:Nat}(h:¬(S j∧(st (j+1)).H x≠(st j).H x)):foldC st C0 S (j+1) x=foldC st C0 S j x:=by
 simp only[foldC];rw[if_neg h]
theorem foldC_late {C0 : Heap} {S : Nat → Prop} {x i : Nat} : ∀ N, i ≤ N → (∀ j, i ≤ j → j < N → S j → (st (j + 1)).H x = (st j).H x) → foldC st C0 S N x = foldC st C0 S i x := by
  intro N hN
  induction N with
  | zero => intro _; have : i = 0 := by omega
            subst this; rfl
  | succ N ih =>
    intro h
    by_cases e : i = N + 1
    · subst e; rfl
    · rw [foldC_no (fun ⟨a, b⟩ => b (h N (by omega) (by omega) a)), ih (by omega) fun j h1 h2 => h j h1 (by omega)]
theorem foldC_early{C0:Heap}{S:Nat→Prop}{x:Nat}(h0:C0 x=(st 0).H x):∀i,(∀j,j<i→(st (j+1)).H x≠(st j).H x→S j)→foldC st C0 S i x=(st i).H x:=by
 intro i
 induction i with
 | zero=>intro _;exact h0
 | succ i ih =>
  intro h
  by_cases hx:(st (i+1)).H x=(st i).H x
  ·rw[foldC_no (fun⟨_,b⟩=>b hx),ih fun j h1=>h j (by omega),hx]
  ·exact foldC_yes (h i (by omega) hx) hx
theorem foldC_congr{C0:Heap}{S S':Nat→Prop}{x:Nat}:∀N,(∀j,j<N→(st (j+1)).H x≠(st j).H x→(S j↔S' j))→foldC st C0 S N x=foldC st C0 S' N x:=by
 intro N
 induction N with
 | zero=>intro _;rfl
 | succ N ih =>
  intro h
  by_cases hx:(st (N+1)).H x=(st N).H x
  ·rw[foldC_no (fun⟨_,b⟩=>b hx),foldC_no (fun⟨_,b⟩=>b hx),ih fun j h1=>h j (by omega)]
  ·by_cases hs:S N
   ·rw[foldC_yes hs hx,foldC_yes ((h N (by omega) hx).1 hs) hx]
   ·rw[foldC_no (fun⟨a,_⟩=>hs a),foldC_no (fun⟨a,_⟩=>hs ((h N (by omega) hx).2 a)),ih fun j h1=>h j (by omega)]
theorem fput_other(f:Fr){d:Option Nat}{v:Value}{t:Nat}(h:d≠some t):fput f d v t=f t:=by
 cases d with
 | none=>rfl
 | some d =>
  show fset f d v t=f t
  rw[fset_apply,if_neg (fun e=>h (by rw[e]))]
theorem fput_same(f:Fr)(t:Nat)(v:Value):fput f (some t) v t=v:=by
 show fset f t v t=v
 rw[fset_apply,if_pos rfl]
theorem foldF_late {S : Nat → Prop} {t i : Nat} : ∀ N, i ≤ N → (∀ j, i ≤ j → j < N → S j → (ops[j]?).bind (·.dst) ≠ some t) → foldF ops st R S N t = foldF ops st R S i t := by
  intro N hN
  induction N with
  | zero => intro _; have : i = 0 := by omega
            subst this; rfl
  | succ N ih =>
    intro h
    by_cases e : i = N + 1
    · subst e; rfl
    · have ih' := ih (by omega) fun j h1 h2 => h j h1 (by omega)
      simp only [foldF]
      split
      · rename_i hs; rw [fput_other _ (h N (by omega) (by omega) hs), ih']
      · exact ih'
theorem foldF_early{S:Nat→Prop}{t N:Nat}(hT:Tr P nt ops N st R):∀i,i≤N→i≤ops.size→(∀j,j<i→(ops[j]?).bind (·.dst)=some t→S j)→foldF ops st R S i t=(st i).f t:=by
 intro i
 induction i with
 | zero=>intro _ _ _;rfl
 | succ i ih =>
  intro hN hsz h
  have ih':=ih (by omega) (by omega) fun j h1=>h j (by omega)
  have ho:ops[i]? = some ops[i]:=Array.getElem?_eq_getElem (by omega)
  obtain⟨_,_,h3⟩:=hT.step i _ (by omega) ho
  rw[h3]
  simp only[foldF]
  by_cases hd:(ops[i]?).bind (·.dst)=some t
  ·rw[if_pos (h i (by omega) hd)]
   rw[ho]at hd ⊢
   simp only[Option.bind_some]at hd ⊢
   rw[hd,fput_same,fput_same]
  ·have hd':ops[i].dst≠some t:=by rw[ho]at hd;simpa using hd
   rw[fput_other _ hd']
   split
   ·rw[fput_other _ hd];exact ih'
   ·exact ih'
theorem foldF_congr{S S':Nat→Prop}{t:Nat}:∀N,(∀j,j<N→(ops[j]?).bind (·.dst)=some t→(S j↔S' j))→foldF ops st R S N t=foldF ops st R S' N t:=by
 intro N
 induction N with
 | zero=>intro _;rfl
 | succ N ih =>
  intro h
  have ih':=ih fun j h1=>h j (by omega)
  simp only[foldF]
  by_cases hd:(ops[N]?).bind (·.dst)=some t
  ·have hi:=h N (by omega) hd
   by_cases hs:S N
   ·rw[if_pos hs,if_pos (hi.1 hs),hd,fput_same,fput_same]
   ·rw[if_neg hs,if_neg (fun e=>hs (hi.2 e)),ih']
  ·have e1:∀(f:Fr),fput f ((ops[N]?).bind (·.dst)) (R N).v t=f t:=fun f=>fput_other f hd
   by_cases hs:S N <;> by_cases hs':S' N <;> simp[hs,hs',e1,ih']
structure J(P:Program)(base:Nat)(nt:Nat)(ops:Array Oper)(st:Nat→St)(R:Nat→Rec)(ι0:Inj)(C0:Heap)(w0:World)(S:Nat→Prop)(ι:Inj)(a:Act)(w:World):Prop where
 fr:FR ι nt (foldF ops st R S ops.size) a.tmps
 hr:HR P base ι (foldC st C0 S ops.size) w
 le:Inj.le ι0 ι
 dom:∀x,(∀j,j<ops.size→S j→¬((st j).n≤x∧x<(st (j+1)).n))→ι x=ι0 x
 seen:∀j,j<ops.size→S j→∀x,(st (j+1)).H x≠(st j).H x→ι x≠none
 below:Below base w0 w
structure Region0(P:Program)(nt:Nat)(ops:Array Oper)(st:Nat→St)(R:Nat→Rec)(base:Nat)(ι0:Inj)(C0:Heap)(w0:World):Prop where
 tr:Tr P nt ops ops.size st R
 static:Static ops
 ok:∀(j:Nat) (o:Oper),ops[j]? = some o→operOK (ngl P) nt ops o=true
 pairs:∀i j,(i,j)∈sPairs ops→∀x,¬((R i).wr=some x∧(x∈(R j).rd∨(R j).wr=some x))∧¬((R j).wr=some x∧(x∈(R i).rd∨(R i).wr=some x))
 calls:∀j,j<ops.size→(R j).call=true→soloB ops j=true∨∀x,x<(st j).n→(st (j+1)).H x=(st j).H x
 wf:WF (st 0).n (st 0).H
 hr:HR P base ι0 C0 w0
 pres:Pres ι0 C0 (st 0).H
 fresh:Fresh ι0 (st 0).n (st ops.size).n
section
variable {P:Program} {nt:Nat} {ops:Array Oper} {st:Nat→St} {R:Nat→Rec} {base:Nat} {ι0:Inj} {C0:Heap} {w0:World}
namespace Region0
theorem get(Z:Region0 P nt ops st R base ι0 C0 w0){j:Nat}(hj:j<ops.size):∃o,ops[j]? = some o∧StepOK P nt ops o (R j)∧(R j).pre=st j∧st (j+1)=⟨fput (st j).f o.dst (R j).v,(R j).n,(R j).H⟩:=by
 have ho:ops[j]? = some ops[j]:=Array.getElem?_eq_getElem hj
 exact⟨_,ho,Z.tr.step j _ hj ho⟩
theorem mono1(Z:Region0 P nt ops st R base ι0 C0 w0){j:Nat}(hj:j<ops.size):Mono (st j).n (st j).H (st (j+1)).n (st (j+1)).H:=by
 obtain⟨o,_,h1,h2,h3⟩:=Z.get hj
 have:=h1.mono
 rw[h2]at this
 rw[h3];exact this
theorem mono (Z : Region0 P nt ops st R base ι0 C0 w0) {i : Nat} : ∀ k, i ≤ k → k ≤ ops.size → Mono (st i).n (st i).H (st k).n (st k).H := by
  intro k
  induction k with
  | zero => intro h _; have : i = 0 := by omega
            subst this; exact Mono.refl _ _
  | succ k ih =>
    intro h hk
    by_cases e : i = k + 1
    · subst e; exact Mono.refl _ _
    · exact (ih (by omega) (by omega)).trans (Z.mono1 (by omega))
theorem wfAt(Z:Region0 P nt ops st R base ι0 C0 w0){i:Nat}(hi:i≤ops.size):WF (st i).n (st i).H:=(Z.mono i (Nat.zero_le _) hi).wf Z.wf
theorem turned (Z : Region0 P nt ops st R base ι0 C0 w0) {j x : Nat} (hj : j < ops.size) (h : (st (j + 1)).H x ≠ (st j).H x) : ((st j).n ≤ x ∧ x < (st (j + 1)).n) ∨ ((R j).wr = some x ∧ (R j).call = false ∧ (st j).H x ≠ .dead) ∨ ((R j).call = true ∧ soloB ops j = true ∧ (st j).H x ≠ .dead) := by
  obtain ⟨o, ho, h1, h2, h3⟩ := Z.get hj
  by_cases hc : (R j).call = true
  · have hup : x < (st (j + 1)).n := by
      rcases Nat.lt_or_ge x (st (j + 1)).n with g | g
      · exact g
      · exfalso
        refine h ?_
        rw [Z.wfAt (by omega) x g, Z.wfAt (i := j) (by omega) x (Nat.le_trans (Z.mono1 hj).le g)]
    rcases Nat.lt_or_ge x (st j).n with g | g
    · rcases Z.calls j hj hc with hs | hs
      · exact .inr (.inr ⟨hc, hs, fun e => h (by rw [e, (Z.mono1 hj).dead x g e])⟩)
      · exact absurd (hs x g) h
    · exact .inl ⟨g, hup⟩
  · have hc' : (R j).call = false := by simpa using hc
    have ht := h1.turned hc' (by rw [h2]; exact Z.wfAt (by omega)) x (by rw [h2]; rw [h3] at h; exact h)
    rcases ht with ht | ht
    · left; rw [h2] at ht; rw [h3]; exact ht
    · right
      refine .inl ⟨ht, hc', ?_⟩
      have := h1.live x (.inr ht)
      rwa [h2] at this
theorem solo{j i:Nat}{o:Oper}(h:soloB ops j=true)(hij:i≠j)(ho:ops[i]? = some o)(hf:forced (masks ops) (min i j) (max i j)≠true):mayTouch o=false:=by
 unfold soloB at h
 rw[List.all_eq_true]at h
 have hi:i<ops.size:=by
  rcases Nat.lt_or_ge i ops.size with g|g
  ·exact g
  ·rw[Array.getElem?_eq_none g]at ho;cases ho
 have:=h i (by simpa using hi)
 simp only[ho,Bool.or_eq_true,beq_iff_eq,Bool.not_eq_true']at this
 rcases this with(h|h)|h
 ·exact absurd h hij
 ·exact absurd h hf
 ·exact h
theorem isCall_touch{o:Oper}(h:isCall o=true):mayTouch o=true:=by
 unfold isCall at h
 split at h
 ·rename_i e;unfold mayTouch;rw[e]
 ·cases h
theorem quiet_obj{o:Oper}{r:Rec}(h1:StepOK P nt ops o r)(hq:mayTouch o=false){x:Nat}{A:Prop}(hx:(r.call=true∧A)∨x∈r.rd∨r.wr=some x):False:=by
 rcases hx with⟨h,_⟩|h|h
 ·rw[isCall_touch (h1.call h)]at hq;cases hq
 ·rw[h1.rd (fun e=>by rw[e]at h;cases h)]at hq;cases hq
 ·rw[mayTouch_of_mayWrite (h1.wr (by rw[h];simp))]at hq;cases hq
theorem clash(Z:Region0 P nt ops st R base ι0 C0 w0){i j x:Nat}(hij:i<j)(hj:j<ops.size)(hf:forced (masks ops) i j≠true)(hi:(R i).wr=some x)(hjx:x∈(R j).rd∨(R j).wr=some x):False:=by
 obtain⟨o,ho,h1,_⟩:=Z.get (j:=i) (by omega)
 obtain⟨o',ho',h1',_⟩:=Z.get hj
 have hw:mayWrite o=true:=h1.wr (by rw[hi];simp)
 have ht:mayTouch o'=true:=by
  rcases hjx with h|h
  ·exact h1'.rd (fun e=>by rw[e]at h;cases h)
  ·exact mayTouch_of_mayWrite (h1'.wr (by rw[h];simp))
 exact(Z.pairs i j (mem_sPairs hij ho ho' hf (.inl ⟨hw,ht⟩)) x).1 ⟨hi,hjx⟩
theorem clash'(Z:Region0 P nt ops st R base ι0 C0 w0){i j x:Nat}(hij:i<j)(hj:j<ops.size)(hf:forced (masks ops) i j≠true)(hi:(R j).wr=some x)(hjx:x∈(R i).rd∨(R i).wr=some x):False:=by
 obtain⟨o,ho,h1,_⟩:=Z.get (j:=i) (by omega)
 obtain⟨o',ho',h1',_⟩:=Z.get hj
 have hw:mayWrite o'=true:=h1'.wr (by rw[hi];simp)
 have ht:mayTouch o=true:=by
  rcases hjx with h|h
  ·exact h1.rd (fun e=>by rw[e]at h;cases h)
  ·exact mayTouch_of_mayWrite (h1.wr (by rw[h];simp))
 exact(Z.pairs i j (mem_sPairs hij ho ho' hf (.inr ⟨hw,ht⟩)) x).2 ⟨hi,hjx⟩
end Region0
def Closed(ops:Array Oper)(S:Nat→Prop):Prop:=∀j o,ops[j]? = some o→S j→∀e∈o.after.toList,Region.binds .any e=true→S e.on
def Ready(ops:Array Oper)(S:Nat→Prop)(i:Nat):Prop:=i<ops.size∧¬S i∧∀o,ops[i]? = some o→∀e∈o.after.toList,Region.binds .any e=true→S e.on
theorem forced_ready(Z:Region0 P nt ops st R base ι0 C0 w0){S:Nat→Prop}(hS:Closed ops S){i j:Nat}(hr:Ready ops S i)(h:forced (masks ops) j i=true):S j :=
 forced_in Z.static.back hS i hr.1 j hr.2.2 h
theorem forced_closed(Z:Region0 P nt ops st R base ι0 C0 w0){S:Nat→Prop}(hS:Closed ops S){i j:Nat}(hj:j<ops.size)(hs:S j)(h:forced (masks ops) i j=true):S i :=
 forced_in Z.static.back hS j hj i (fun o ho=>hS j o ho hs) h
theorem slot_found(Z:Region0 P nt ops st R base ι0 C0 w0){S:Nat→Prop}(hS:Closed ops S){i:Nat}(hr:Ready ops S i){o:Oper}(ho:ops[i]? = some o){t:Nat}(ht:t∈o.looksAt ops) :
  foldF ops st R S ops.size t=(st i).f t:=by
 have hi:=hr.1
 rw[foldF_late (ops:=ops) (R:=R) (st:=st) (S:=S) (t:=t) (i:=i) ops.size (by omega)]
 ·refine foldF_early Z.tr i (by omega) (by omega) fun j hj hd=>?_
  have hoj:ops[j]? = some ops[j]:=Array.getElem?_eq_getElem (by omega)
  rcases Z.static.pair j i _ _ hj hoj ho with h|⟨h,_⟩
  ·exact forced_ready Z hS hr h
  ·exfalso
   rw[hoj]at hd
   exact(Oper.apart_spec h).1 t (by simpa using hd) ht
 ·intro j hij hj hs hd
  by_cases e:j=i
  ·subst e;exact hr.2.1 hs
  ·have hoj:ops[j]? = some ops[j]:=Array.getElem?_eq_getElem hj
   rcases Z.static.pair i j _ _ (by omega) ho hoj with h|⟨h,_⟩
   ·exact hr.2.1 (forced_closed Z hS hj hs h)
   ·rw[hoj]at hd
    exact(Oper.apart_spec h).2.2 t (by simpa using hd) ht
theorem obj_found(Z:Region0 P nt ops st R base ι0 C0 w0){S:Nat→Prop}(hS:Closed ops S){ι:Inj}{a:Act}{w:World}(hJ:J P base nt ops st R ι0 C0 w0 S ι a w)
  {i:Nat} (hr:Ready ops S i) {x:Nat} (hx:((R i).call=true∧(st i).H x≠.dead)∨x∈(R i).rd∨(R i).wr=some x) (hι:ι x≠none):foldC st C0 S ops.size x=(st i).H x:=by
 have hi:=hr.1
 obtain⟨o,ho,h1,h2,h3⟩:=Z.get hi
 have hlive:(st i).H x≠.dead:=by
  rcases hx with⟨_,h⟩|h
  ·exact h
  ·have:=h1.live x h;rwa [h2]at this
 have hxn:x<(st i).n:=by
  rcases Nat.lt_or_ge x (st i).n with g|g
  ·exact g
  ·exact absurd (Z.wfAt (by omega) x g) hlive
 rw[foldC_late (i:=i) ops.size (by omega)]
 ·refine foldC_early ?_ i fun j hj hc=>?_
  ·-- at the beginning
   by_cases hx0:x<(st 0).n
   ·have hd:(st 0).H x≠.dead:=fun e=>hlive ((Z.mono i (Nat.zero_le _) (by omega)).dead x hx0 e)
    refine Z.pres x ?_ hd
    rw[←hJ.dom x]
    ·exact hι
    ·intro j hj _ h
     have:=(Z.mono j (Nat.zero_le _) (by omega)).le
     omega
   ·have hfr:=Z.fresh x (by omega) (Nat.lt_of_lt_of_le hxn (Z.mono (i:=i) ops.size (by omega) (Nat.le_refl _)).le)
    rw[Z.wf x (by omega)]
    by_cases hd:C0 x=.dead
    ·exact hd
    ·obtain⟨t,ht⟩:=(Z.hr.obj x).tgt hd
     rw[hfr]at ht;cases ht
  ·-- what turned it ahead of i has come
   rcases Z.turned (by omega) hc with hn|⟨hw,hcf,_⟩|⟨_,hsolo,_⟩
   ·-- allocated by j: it is there
    apply Classical.byContradiction
    intro hns
    refine hι ?_
    rw[hJ.dom x,Z.fresh x (Nat.le_trans (Z.mono j (Nat.zero_le _) (by omega)).le hn.1) (Nat.lt_of_lt_of_le hn.2 (Z.mono (i:=j+1) ops.size (by omega) (Nat.le_refl _)).le)]
    intro k hk hs hkx
    by_cases hkj:k=j
    ·subst hkj;exact hns hs
    ·rcases Nat.lt_or_ge k j with g|g
     ·have:=(Z.mono (i:=k+1) j (by omega) (by omega)).le;omega
     ·have:=(Z.mono (i:=j+1) k (by omega) (by omega)).le;omega
   ·by_cases hf:forced (masks ops) j i=true
    ·exact forced_ready Z hS hr hf
    ·exfalso
     obtain⟨oj,hoj,h1j,_⟩:=Z.get (j:=j) (by omega)
     rcases hx with⟨hcall,_⟩|hx
     ·have hmw:mayWrite oj=true:=h1j.wr (by rw[hw];simp)
      rcases Z.static.pair j i _ _ hj hoj ho with h|⟨_,_,h⟩
      ·exact hf h
      ·exact h ⟨h1.call hcall,hmw⟩
     ·exact Z.clash hj hi hf hw hx
   ·by_cases hf:forced (masks ops) j i=true
    ·exact forced_ready Z hS hr hf
    ·exfalso
     have hq:=Region0.solo (i:=i) hsolo (by omega) ho (by rw[show min i j=j by omega,show max i j=i by omega];exact hf)
     exact Region0.quiet_obj h1 hq hx
 ·intro j hij hj hs
  apply Classical.byContradiction
  intro hc
  by_cases e:j=i
  ·subst e;exact hr.2.1 hs
  ·rcases Z.turned hj hc with hn|⟨hw,_,_⟩|⟨_,hsolo,_⟩
   ·have:=(Z.mono (i:=i) j (by omega) (by omega)).le;omega
   ·have hf:forced (masks ops) i j≠true:=fun h=>hr.2.1 (forced_closed Z hS hj hs h)
    obtain⟨oj,hoj,h1j,_⟩:=Z.get hj
    rcases hx with⟨hcall,_⟩|hx
    ·have hmw:mayWrite oj=true:=h1j.wr (by rw[hw];simp)
     rcases Z.static.pair i j _ _ (by omega) ho hoj with h|⟨_,h,_⟩
     ·exact hf h
     ·exact h ⟨h1.call hcall,hmw⟩
    ·exact Z.clash' (by omega) hj hf hw hx
   ·have hf:forced (masks ops) i j≠true:=fun h=>hr.2.1 (forced_closed Z hS hj hs h)
    have hq:=Region0.solo (i:=i) hsolo (by omega) ho (by rw[show min i j=i by omega,show max i j=j by omega];exact hf)
    exact Region0.quiet_obj h1 hq hx
def with_(S:Nat→Prop)(i:Nat):Nat→Prop:=fun j=>S j∨j=i
theorem foldC_with (Z : Region0 P nt ops st R base ι0 C0 w0) {S : Nat → Prop} (hS : Closed ops S) {ι : Inj} {a : Act} {w : World} (hJ : J P base nt ops st R ι0 C0 w0 S ι a w)
    {i : Nat} (hr : Ready ops S i) {C' : Heap} (hf : Fresh ι (st i).n (st (i + 1)).n) (hc : Ch (foldC st C0 S ops.size) (st i).H C' (st (i + 1)).H) : C' = foldC st C0 (with_ S i) ops.size := by
  have hi := hr.1
  funext x
  by_cases hx : (st (i + 1)).H x = (st i).H x
  · have h1 : C' x = foldC st C0 S ops.size x := by
      rcases hc x with ⟨_, h⟩ | ⟨h1, h2⟩
      · exact h
      · rw [h1, hx, h2]
    rw [h1]
    refine foldC_congr ops.size fun j hj hcj => ⟨fun h => .inl h, fun h => ?_⟩
    rcases h with h | h
    · exact h
    · subst h; exact absurd hx hcj
  · have h1 : C' x = (st (i + 1)).H x := by
      rcases hc x with ⟨h, _⟩ | ⟨h, _⟩
      · exact absurd h hx
      · exact h
    rw [h1, foldC_late (i := i + 1) ops.size (by omega), foldC_yes (.inr rfl) hx]
    intro j hij hj hs
    apply Classical.byContradiction
    intro hcj
    have hsj : S j := by
      rcases hs with h | h
      · exact h
      · omega
    obtain ⟨o, ho, h1', h2', h3'⟩ := Z.get hi
    rcases Z.turned hi hx with hn | ⟨hw, _, hl⟩ | ⟨_, hsolo, hl⟩
    · -- i makes it: j can't have met it
      exact absurd (hf x hn.1 hn.2) (hJ.seen j hj hsj x hcj)
    · rcases Z.turned hj hcj with hn | ⟨hw2, _, _⟩ | ⟨_, hsolo, _⟩
      · have h4 := (Z.mono (i := i) j (by omega) (by omega)).le
        exact hl (Z.wfAt (by omega) x (by omega))
      · by_cases hfo : forced (masks ops) i j = true
        · exact hr.2.1 (forced_closed Z hS hj hsj hfo)
        · exact Z.clash (by omega) hj hfo hw (.inr hw2)
      · by_cases hfo : forced (masks ops) i j = true
        · exact hr.2.1 (forced_closed Z hS hj hsj hfo)
        · have hq := Region0.solo (i := i) hsolo (by omega) ho (by rw [show min i j = i by omega, show max i j = j by omega]; exact hfo)
          exact Region0.quiet_obj (A := True) h1' hq (.inr (.inr hw))
    · rcases Z.turned hj hcj with hn | hw2
      · have h4 := (Z.mono (i := i) j (by omega) (by omega)).le
        exact hl (Z.wfAt (by omega) x (by omega))
      · by_cases hfo : forced (masks ops) i j = true
        · exact hr.2.1 (forced_closed Z hS hj hsj hfo)
        · obtain ⟨oj, hoj, h1j, _⟩ := Z.get hj
          have hq := Region0.solo (i := j) hsolo (by omega) hoj (by rw [show min j i = i by omega, show max j i = j by omega]; exact hfo)
          refine Region0.quiet_obj (x := x) (A := True) h1j hq ?_
          rcases hw2 with ⟨h, _⟩ | ⟨h, _⟩
          · exact .inr (.inr h)
          · exact .inl ⟨h, trivial⟩
theorem foldF_with(Z:Region0 P nt ops st R base ι0 C0 w0){S:Nat→Prop}(hS:Closed ops S){i:Nat}(hr:Ready ops S i){o:Oper}(ho:ops[i]? = some o)(t:Nat) :
  foldF ops st R (with_ S i) ops.size t=fput (foldF ops st R S ops.size) o.dst (R i).v t:=by
 have hi:=hr.1
 by_cases hd:o.dst=some t
 ·rw[hd,fput_same,foldF_late (i:=i+1) ops.size (by omega)]
  ·have hw:with_ S i i:=.inr rfl
   simp only[foldF]
   rw[if_pos hw,ho,Option.bind_some,hd,fput_same]
  ·intro j hij hj hs hdj
   have hsj:S j:=by
    rcases hs with h|h
    ·exact h
    ·omega
   have hoj:ops[j]? = some ops[j]:=Array.getElem?_eq_getElem hj
   rcases Z.static.pair i j _ _ (by omega) ho hoj with h|⟨h,_⟩
   ·exact hr.2.1 (forced_closed Z hS hj hsj h)
   ·rw[hoj]at hdj
    exact(Oper.apart_spec h).2.1 t hd (by simpa using hdj)
 ·rw[fput_other _ hd]
  refine foldF_congr ops.size fun j hj hdj=>⟨fun h=>?_,fun h=>.inl h⟩
  rcases h with h|h
  ·exact h
  ·subst h;rw[ho]at hdj;exact absurd (by simpa using hdj) hd
theorem closed_with{S:Nat→Prop}(hS:Closed ops S){i:Nat}(hr:Ready ops S i):Closed ops (with_ S i):=by
 intro j o ho hs e he hb
 rcases hs with h|h
 ·exact .inl (hS j o ho h e he hb)
 ·subst h;exact .inl (hr.2.2 o ho e he hb)
theorem draw_step (Z : Region0 P nt ops st R base ι0 C0 w0) {S : Nat → Prop} (hS : Closed ops S) {ι : Inj} {a : Act} {w : World} (hJ : J P base nt ops st R ι0 C0 w0 S ι a w)
    {i : Nat} (hr : Ready ops S i) {K : Act → World → Prop} {Q : Exit → Act → World → Prop}
    (hK : ∀ a' w' κ, J P base nt ops st R ι0 C0 w0 (with_ S i) κ a' w' → a'.defers = a.defers → K a' w') : wpOp P ops Q i K a w := by
  have hi := hr.1
  obtain ⟨o, ho, h1, h2, h3⟩ := Z.get hi
  have hok := Z.ok i o ho
  have hn : (R i).n = (st (i + 1)).n := by rw [h3]
  have hH : (R i).H = (st (i + 1)).H := by rw [h3]
  have hfresh : Fresh ι (st i).n (st (i + 1)).n := by
    intro x hx1 hx2
    rw [hJ.dom x, Z.fresh x (Nat.le_trans (Z.mono i (Nat.zero_le _) (by omega)).le hx1) (Nat.lt_of_lt_of_le hx2 (Z.mono (i := i + 1) ops.size (by omega) (Nat.le_refl _)).le)]
    intro k hk hs hkx
    by_cases hki : k = i
    · subst hki; exact hr.2.1 hs
    · rcases Nat.lt_or_ge k i with g | g
      · have := (Z.mono (i := k + 1) i (by omega) (by omega)).le; omega
      · have := (Z.mono (i := i + 1) k (by omega) (by omega)).le; omega
  unfold wpOp
  simp only [ho]
  have hx := h1.exec (by rw [h2]; exact Z.wfAt (by omega)) base ι (foldC st C0 S ops.size) a w hJ.fr.1 (fun t ht => by
      rw [h2, ← slot_found Z hS hr ho ht]; exact hJ.fr.2 t (looks_lt hok t ht)) hJ.hr (fun x hx hι => by
      rw [h2] at hx ⊢; exact obj_found Z hS hJ hr hx hι) (by rw [h2, hn]; exact hfresh) K Q (fun v' w' κ C' hv ha => by
      rw [h2, hn, hH] at ha
      refine hK (a.put o.dst v') w' κ ⟨?_, ?_, Inj.le_trans hJ.le ha.le, fun x hx => ?_, fun j hj hs x hc => ?_, hJ.below.trans ha.below⟩ (by cases o.dst <;> rfl)
      · have hF := (hJ.fr.mono ha.le).put (dst_ok hok) hv
        refine ⟨hF.1, fun t ht => ?_⟩
        rw [foldF_with Z hS hr ho t]
        exact hF.2 t ht
      · rw [← foldC_with Z hS hJ hr hfresh ha.ch]; exact ha.hr
      · rw [ha.out x (hx i hi (.inr rfl)), hJ.dom x fun j hj hs => hx j hj (.inl hs)]
      · rcases hs with hs | hs
        · intro e
          cases hk : ι x with
          | none => exact hJ.seen j hj hs x hc hk
          | some t => rw [ha.le x t hk] at e; cases e
        · subst hs; exact ha.seen x hc)
  split
  · rename_i hw; simp only [hw, if_true] at hx; exact .inl hx
  · rename_i hw; simp only [hw] at hx; exact hx
theorem all_come(Z:Region0 P nt ops st R base ι0 C0 w0){S:Nat→Prop}(h:∀i,¬Ready ops S i):∀j,j<ops.size→S j:=by
 intro j
 induction j using Nat.strongRecOn with
 | _ j ih =>
  intro hj
  apply Classical.byContradiction
  intro hs
  exact h j ⟨hj,hs,fun o ho e he hb=>ih e.on (Z.static.back j o ho e he hb) (by have:=Z.static.back j o ho e he hb;omega)⟩
theorem draw_end (Z : Region0 P nt ops st R base ι0 C0 w0) {S : Nat → Prop} {ι : Inj} {a : Act} {w : World} (hJ : J P base nt ops st R ι0 C0 w0 S ι a w) (hall : ∀ j, j < ops.size → S j) :
    FR ι nt (st ops.size).f a.tmps ∧ After P base ι0 C0 (st 0).H (st 0).n w0 ι (foldC st C0 S ops.size) (st ops.size).H (st ops.size).n w := by
  refine ⟨⟨hJ.fr.1, fun t ht => ?_⟩, hJ.le, fun x hx => ?_, fun x => ?_, fun x hx => ?_, hJ.hr, hJ.below⟩
  · have := foldF_early (S := S) (t := t) Z.tr ops.size (Nat.le_refl _) (Nat.le_refl _) fun j hj _ => hall j hj
    rw [← this]; exact hJ.fr.2 t ht
  · refine hJ.dom x fun j hj _ h => hx ⟨Nat.le_trans (Z.mono j (Nat.zero_le _) (by omega)).le h.1, Nat.lt_of_lt_of_le h.2 (Z.mono (i := j + 1) ops.size (by omega) (Nat.le_refl _)).le⟩
  · by_cases hch : ∃ j, j < ops.size ∧ (st (j + 1)).H x ≠ (st j).H x
    · right
      obtain ⟨j, hj, hc⟩ := hch
      have hι := hJ.seen j hj (hall j hj) x hc
      have h0 : C0 x = (st 0).H x := by
        by_cases hx0 : (st 0).n ≤ x
        · have hxN : x < (st ops.size).n := by
            rcases Nat.lt_or_ge x (st ops.size).n with g | g
            · exact g
            · exfalso
              refine hc ?_
              rw [Z.wfAt (i := j + 1) (by omega) x (Nat.le_trans (Z.mono (i := j + 1) ops.size (by omega) (Nat.le_refl _)).le g),
                Z.wfAt (i := j) (by omega) x (Nat.le_trans (Z.mono (i := j) ops.size (by omega) (Nat.le_refl _)).le g)]
          rw [Z.wf x hx0]
          by_cases hd : C0 x = .dead
          · exact hd
          · obtain ⟨t, ht⟩ := (Z.hr.obj x).tgt hd
            rw [Z.fresh x hx0 hxN] at ht; cases ht
        · have hd : (st 0).H x ≠ .dead := by
            intro e
            have e1 := (Z.mono j (Nat.zero_le _) (by omega)).dead x (by omega) e
            have e2 := (Z.mono (j + 1) (Nat.zero_le _) (by omega)).dead x (by omega) e
            exact hc (by rw [e1, e2])
          refine Z.pres x ?_ hd
          rw [← hJ.dom x]
          · exact hι
          · intro k hk _ h
            have := (Z.mono k (Nat.zero_le _) (by omega)).le
            omega
      exact ⟨foldC_early h0 ops.size fun k hk _ => hall k hk, h0⟩
    · left
      have hno : ∀ k, k < ops.size → (st (k + 1)).H x = (st k).H x := fun k hk => Classical.byContradiction fun h => hch ⟨k, hk, h⟩
      have hH : ∀ k, k ≤ ops.size → (st k).H x = (st 0).H x := by
        intro k
        induction k with
        | zero => intro _; rfl
        | succ k ih => intro hk; rw [hno k (by omega), ih (by omega)]
      exact ⟨hH _ (Nat.le_refl _), foldC_late (i := 0) ops.size (Nat.zero_le _) fun j _ hj _ => hno j hj⟩
  · have hch : ∃ j, j < ops.size ∧ (st (j + 1)).H x ≠ (st j).H x := by
      apply Classical.byContradiction
      intro hno
      refine hx ?_
      have hH : ∀ k, k ≤ ops.size → (st k).H x = (st 0).H x := by
        intro k
        induction k with
        | zero => intro _; rfl
        | succ k ih => intro hk; rw [Classical.byContradiction fun h => hno ⟨k, by omega, h⟩, ih (by omega)]
      exact hH _ (Nat.le_refl _)
    obtain ⟨j, hj, hc⟩ := hch
    exact hJ.seen j hj (hall j hj) x hc
def come(listed:Array Bool):Nat→Prop:=fun j=>listed.getD j false=true
theorem ready_iff{listed:Array Bool}(hl:listed.size=ops.size)(i:Nat):i∈Region.ready .any ops listed↔Ready ops (come listed) i:=by
 rw[mem_ready]
 constructor
 ·rintro⟨h1,o,ho,h2⟩
  have hi:i<ops.size:=by
   rcases Nat.lt_or_ge i ops.size with g|g
   ·exact g
   ·rw[Array.getElem?_eq_none g]at ho;cases ho
  refine⟨hi,?_,fun o' ho' e he hb=>?_⟩
  ·unfold come
   have:listed[i]? = some listed[i]:=Array.getElem?_eq_getElem (by omega)
   rw[Array.getD_eq_getD_getElem?,this]at h1 ⊢
   simp at h1 ⊢;exact h1
  ·rw[ho]at ho';cases ho'
   exact h2 e (by simpa using he) hb
 ·rintro⟨hi,h1,h2⟩
  refine⟨?_,ops[i],Array.getElem?_eq_getElem hi,fun e he hb=>h2 _ (Array.getElem?_eq_getElem hi) e (by simpa using he) hb⟩
  unfold come at h1
  have:listed[i]? = some listed[i]:=Array.getElem?_eq_getElem (by omega)
  rw[Array.getD_eq_getD_getElem?,this]at h1 ⊢
  simp at h1 ⊢;exact h1
theorem come_set{listed:Array Bool}(hl:listed.size=ops.size){i:Nat}(hi:i<ops.size):come (listed.setIfInBounds i true)=with_ (come listed) i:=by
 funext j
 show((listed.setIfInBounds i true).getD j false=true)=(listed.getD j false=true∨j=i)
 rw[Array.getD_eq_getD_getElem?,Array.getElem?_setIfInBounds,Array.getD_eq_getD_getElem?]
 by_cases h:i=j
 ·subst h
  have:i<listed.size:=by omega
  simp[this]
 ·have:¬j=i:=fun e=>h e.symm
  simp[h,this]
theorem countP_le{p q:Nat→Bool}(h:∀x,q x=true→p x=true):∀l:List Nat,l.countP q≤l.countP p:=by
 intro l
 induction l with
 | nil=>simp
 | cons x l ih =>
  simp only[List.countP_cons]
  by_cases hq:q x=true
  ·simp[hq,h x hq,ih]
  ·simp only[Bool.not_eq_true]at hq
   simp only[hq,Bool.false_eq_true,if_false]
   split <;> omega
theorem countP_lt{p q:Nat→Bool}(h:∀x,q x=true→p x=true){i:Nat}(hp:p i=true)(hq:q i=false):∀l:List Nat,i∈l→l.countP q+1≤l.countP p:=by
 intro l
 induction l with
 | nil=>intro hi;cases hi
 | cons x l ih =>
  intro hi
  simp only[List.countP_cons]
  rcases List.mem_cons.1 hi with e|e
  ·subst e
   have:=countP_le h l
   simp[hp,hq];exact this
  ·have:=ih e
   by_cases hqx:q x=true
   ·simp[hqx,h x hqx];omega
   ·simp only[Bool.not_eq_true]at hqx
    simp only[hqx,Bool.false_eq_true,if_false]
    split <;> omega
theorem draw_any (Z : Region0 P nt ops st R base ι0 C0 w0) {a0 : Act} {Q : Exit → Act → World → Prop}
    (hQ : ∀ a' w' κ C', FR κ nt (st ops.size).f a'.tmps → a'.defers = a0.defers → After P base ι0 C0 (st 0).H (st 0).n w0 κ C' (st ops.size).H (st ops.size).n w' → Q .normal a' w') :
    ∀ (fuel : Nat) (listed : Array Bool) (ι : Inj) (a : Act) (w : World), listed.size = ops.size → Closed ops (come listed) → J P base nt ops st R ι0 C0 w0 (come listed) ι a w → a.defers = a0.defers →
      (List.range ops.size).countP (fun j => !listed.getD j false) ≤ fuel → wpAny P .any ops Q fuel listed a w := by
  have fin : ∀ (listed : Array Bool) (ι : Inj) (a : Act) (w : World), listed.size = ops.size → J P base nt ops st R ι0 C0 w0 (come listed) ι a w → a.defers = a0.defers →
      (∀ i, ¬ Ready ops (come listed) i) → Q .normal a w := fun listed ι a w hl hJ hd hno => by
    obtain ⟨h1, h2⟩ := draw_end Z hJ (all_come Z hno)
    exact hQ a w ι _ h1 hd h2
  intro fuel
  induction fuel with
  | zero =>
    intro listed ι a w hl hS hJ hd hc
    have hno : ∀ i, ¬ Ready ops (come listed) i := by
      intro i hr
      have h0 := countP_lt (p := fun j => !listed.getD j false) (q := fun _ => false) (by simp) (i := i) (by simpa [come] using hr.2.1) rfl (List.range ops.size) (List.mem_range.2 hr.1)
      omega
    have hnil : Region.ready .any ops listed = [] := by
      cases hr : Region.ready .any ops listed with
      | nil => rfl
      | cons i l => exact absurd ((ready_iff hl i).1 (by rw [hr]; simp)) (hno i)
    exact ⟨hnil, fin listed ι a w hl hJ hd hno⟩
  | succ fuel ih =>
    intro listed ι a w hl hS hJ hd hc
    refine ⟨fun hnil => fin listed ι a w hl hJ hd fun i hr => ?_, fun i hi => ?_⟩
    · have := (ready_iff hl i).2 hr
      rw [hnil] at this; cases this
    · have hr := (ready_iff hl i).1 hi
      refine draw_step Z hS hJ hr fun a' w' κ hJ' hd' => ?_
      rw [← come_set hl hr.1] at hJ'
      refine ih _ κ a' w' (by simpa using hl) ?_ hJ' (hd'.trans hd) ?_
      · rw [come_set hl hr.1]; exact closed_with hS hr
      · have h0 := countP_lt (p := fun j => !listed.getD j false) (q := fun j => !(listed.setIfInBounds i true).getD j false) ?_ (i := i) (by simpa [come] using hr.2.1) ?_ (List.range ops.size) (List.mem_range.2 hr.1)
        · omega
        · intro x hx
          have := congrFun (come_set hl hr.1) x
          simp only [Bool.not_eq_true'] at hx ⊢
          apply Classical.byContradiction
          intro h
          have h1 : come listed x := by unfold come; simpa using h
          have h2 : come (listed.setIfInBounds i true) x := by rw [this]; exact .inl h1
          unfold come at h2
          rw [hx] at h2; cases h2
        · have := congrFun (come_set hl hr.1) i
          have h2 : come (listed.setIfInBounds i true) i := by rw [this]; exact .inr rfl
          unfold come at h2
          simp only [h2, Bool.not_true]
theorem foldC_none(C0:Heap)(S:Nat→Prop)(h:∀j,¬S j):∀N,foldC st C0 S N=C0:=by
 intro N
 induction N with
 | zero=>rfl
 | succ N ih=>funext x;rw[foldC_no (fun⟨a,_⟩=>h N a),ih]
theorem foldF_none(S:Nat→Prop)(h:∀j,¬S j):∀N,foldF ops st R S N=(st 0).f:=by
 intro N
 induction N with
 | zero=>rfl
 | succ N ih=>simp only[foldF];rw[if_neg (h N),ih]
theorem wp_draw(Z:Region0 P nt ops st R base ι0 C0 w0)(hm:P.follows .mixedOrders=true){id:Nat}{a:Act}{Q:Exit→Act→World→Prop}(hF:FR ι0 nt (st 0).f a.tmps)
  (hQ:∀a' w' κ C',FR κ nt (st ops.size).f a'.tmps→a'.defers=a.defers→After P base ι0 C0 (st 0).H (st 0).n w0 κ C' (st ops.size).H (st ops.size).n w'→Q .normal a' w') :
  (Code.region id ops true).wp P Q a w0:=by
 refine wp_region_any hm ?_
 have hnone:∀j,¬come (Array.replicate ops.size false) j:=by
  intro j h
  unfold come at h
  rw[Array.getD_eq_getD_getElem?,Array.getElem?_replicate]at h
  split at h <;> simp at h
 refine draw_any Z (a0:=a) hQ ops.size _ ι0 a _ (by simp) (fun j o _ h=>absurd h (hnone j)) ?_ rfl ?_
 ·refine⟨?_,?_,Inj.le_refl _,fun _ _=>rfl,fun j _ h=>absurd h (hnone j),(Below.refl _ _).drew⟩
  ·rw[foldF_none _ hnone];exact hF
  ·rw[foldC_none _ _ hnone];exact Z.hr.same rfl
 ·have:=List.countP_le_length (p:=fun j=>!(Array.replicate ops.size false).getD j false) (l:=List.range ops.size)
  simpa using this
end
end
end Go.AM
namespace Go.AM
open Go.RowKit
def exitOf:AExit→Exit
 | .normal=>.normal
 | .exit id=>.exit id
 | .ret=>.ret
def Exec(P:Program)(nt:Nat)(s:St)(e:AExit)(s':St)(X:(Exit→Act→World→Prop)→Act→World→Prop):Prop :=
 ∀(base:Nat) (ι:Inj) (C:Heap) (a:Act) (w:World),FR ι nt s.f a.tmps→a.defers=[]→HR P base ι C w→Pres ι C s.H→Fresh ι s.n s'.n →
  ∀Q:Exit→Act→World→Prop,(∀a' w' κ C',FR κ nt s'.f a'.tmps→a'.defers=[]→After P base ι C s.H s.n w κ C' s'.H s'.n w'→Q (exitOf e) a' w')→X Q a w
def M (P : Program) : Job → Out → Prop
  | .code c s, .at e s' => ∀ nt, codeOK (ngl P) nt c = true → Mono s.n s.H s'.n s'.H ∧ (WF s.n s.H → Exec P nt s e s' (fun Q a w => c.wp P Q a w) ∧
      ∀ b, c = .loop b → ∃ n, Exec P nt s e s' (fun Q a w => Code.rounds P b Q n a w))
  | .ops all rest s, .log s' l => ∀ nt, (∀ o ∈ rest, operOK (ngl P) nt all o = true) → Chain P nt all rest s l s'
  | .call g args n H, .ret v n' H' => Mono n H n' H' ∧ CallSound P g args n H v n' H' ∧ ∃ fn c, FnOK P g fn c
  | _, _ => True
section
variable {P:Program}
theorem exec_then{nt:Nat}{s s1 s2:St}{e:AExit}{X Y Z:(Exit→Act→World→Prop)→Act→World→Prop}(h1:Mono s.n s.H s1.n s1.H)(h2:Mono s1.n s1.H s2.n s2.H)(hw:WF s.n s.H)
  (hX:Exec P nt s .normal s1 X) (hY:Exec P nt s1 e s2 Y) (hZ:∀Q a w,X (Exit.then (fun a w=>Y Q a w) Q) a w→Z Q a w):Exec P nt s e s2 Z:=by
 intro base ι C a w hF hd hR hp hf Q hQ
 refine hZ Q a w (hX base ι C a w hF hd hR hp (fun x a1 a2=>hf x a1 (Nat.lt_of_lt_of_le a2 h2.le)) _ fun a' w' κ C' hF' hd' ha=>?_)
 exact hY base κ C' a' w' hF' hd' ha.hr (ha.pres hp hw) (ha.fresh hf h1.le) Q fun a'' w'' μ C'' hF'' hd'' ha'=>hQ a'' w'' μ C'' hF'' hd'' (ha.trans ha' h1.le h2.le)
theorem exec_out{nt:Nat}{s s1:St}{e:AExit}{X Z:(Exit→Act→World→Prop)→Act→World→Prop}{Y:(Exit→Act→World→Prop)→Act→World→Prop}(he:e≠.normal)
  (hX:Exec P nt s e s1 X) (hZ:∀Q a w,X (Exit.then (fun a w=>Y Q a w) Q) a w→Z Q a w):Exec P nt s e s1 Z:=by
 intro base ι C a w hF hd hR hp hf Q hQ
 refine hZ Q a w (hX base ι C a w hF hd hR hp hf _ fun a' w' κ C' hF' hd' ha=>?_)
 cases e with
 | normal=>exact absurd rfl he
 | exit id=>exact hQ a' w' κ C' hF' hd' ha
 | ret=>exact hQ a' w' κ C' hF' hd' ha
theorem exec_same{nt:Nat}{s:St}{e:AExit}{X:(Exit→Act→World→Prop)→Act→World→Prop}(hX:∀Q a w,Q (exitOf e) a w→X Q a w):Exec P nt s e s X :=
 fun _ _ _ a w hF hd hR _ _ Q hQ=>hX Q a w (hQ a w _ _ hF hd (After.refl hR _ _))
def resRun(tmps:Array Value):ResultVar→Sem Value
 | .tmp t=>pure (tmps.getD t undef)
 | .cell a t=>do loadVar t (←asAddr (tmps.getD a undef))
theorem results_eq(fn:Func)(tmps:Array Value):results fn tmps=(do let vs ←fn.results.mapM (resRun tmps);pure (if h:vs.size=1 then vs[0] else .tuple vs)):=rfl
theorem result_run{nt:Nat}{base:Nat}{ι:Inj}{C:Heap}{w:World}{s:St}{tmps:Array Value}{r:ResultVar}{v:Value}(h:aresult P s r=some v)
  (hr:resOK nt r=true) (hF:FR ι nt s.f tmps) (hR:HR P base ι C w) (hp:Pres ι C s.H) :
  ∃v',(resRun tmps r).run P w=.ok v' w∧VR ι v v':=by
 cases r with
 | tmp t =>
  simp only[aresult,Option.some.injEq]at h
  subst h
  exact⟨_,rfl,hF.2 t (by simpa [resOK] using hr)⟩
 | cell a ty =>
  simp only[aresult]at h
  obtain⟨res,h1,rfl⟩:=Option.map_eq_some_iff.1 h
  have F:∀x∈res.rd,s.H x≠.dead:=by
   have := (aop_facts (P := P) (n := 0) (H := s.H) (ρ := fun _ => s.f a) (o := ⟨none, .load ty (.tmp 0), 0, "", #[], none⟩) (r := res) h1).rd
   exact this
  obtain⟨v',ad,e1,e2,e3,_⟩:=load_run hR h1 (hF.2 a (by simpa [resOK] using hr)) (fun x hx hi=>hp x hi (F x hx))
  refine⟨v',?_,e3⟩
  simp[resRun,e1,asAddr,e2]
theorem results_run {fn : Func} {base : Nat} {ι : Inj} {C : Heap} {w : World} {s : St} {tmps : Array Value} {v : Value} (h : aresults P fn s = some v) (hok : resultsOK fn = true) (hF : FR ι fn.ntmps s.f tmps)
    (hR : HR P base ι C w) (hp : Pres ι C s.H) : ∃ v', (results fn tmps).run P w = .ok v' w ∧ VR ι v v' := by
  have key : ∀ (rs : List ResultVar) (l : List Value), aresultsL P s rs = some l → (∀ r ∈ rs, resOK fn.ntmps r = true) →
      ∃ l', (rs.mapM (resRun tmps)).run P w = .ok l' w ∧ VRs ι l l' := by
    intro rs
    induction rs with
    | nil => intro l hl _; simp only [aresultsL] at hl; cases hl; exact ⟨[], by simp, .nil ι⟩
    | cons r rs ih =>
      intro l hl hr
      simp only [aresultsL] at hl
      split at hl
      case h_2 => cases hl
      rename_i v l hv hl'
      cases hl
      obtain ⟨v', e1, e2⟩ := result_run hv (hr r (by simp)) hF hR hp
      obtain ⟨l', e3, e4⟩ := ih l hl' fun r' h' => hr r' (by simp [h'])
      refine ⟨v' :: l', ?_, .cons e2 e4⟩
      rw [List.mapM_cons, Sem.run_bind, e1, Result.andThen_ok, Sem.run_bind, e3]
      rfl
  unfold aresults at h
  obtain ⟨l, h1, h2⟩ := Option.map_eq_some_iff.1 h
  obtain ⟨l', e1, e2⟩ := key fn.results.toList l h1 (by unfold resultsOK at hok; rw [List.all_eq_true] at hok; exact hok)
  have hrun : (results fn tmps).run P w = .ok (if h : l'.toArray.size = 1 then l'.toArray[0] else .tuple l'.toArray) w := by
    rw [results_eq, Sem.run_bind, Array.mapM_eq_mapM_toList, Sem.run_map]
    rw [e1]
    rfl
  refine ⟨_, hrun, ?_⟩
  cases l with
  | nil =>
    simp only at h2
    subst h2
    rw [e2.nil_inv]
    exact (VRs.nil ι).tuple
  | cons v1 l =>
    obtain ⟨v1', k, rfl, r1, r2⟩ := e2.cons_inv
    cases l with
    | nil =>
      simp only at h2
      subst h2
      rw [r2.nil_inv]
      exact r1
    | cons v2 l =>
      obtain ⟨v2', k2, rfl, r3, r4⟩ := r2.cons_inv
      simp only at h2
      subst h2
      have : (if h : (v1' :: v2' :: k2).toArray.size = 1 then (v1' :: v2' :: k2).toArray[0] else .tuple (v1' :: v2' :: k2).toArray) = Value.tuple (v1' :: v2' :: k2).toArray := by
        rw [dif_neg (by simp)]
      rw [this]
      exact (VRs.cons r1 (VRs.cons r3 r4)).tuple
theorem enter_fr{ι:Inj}{args args':List Value}(h:VRs ι args args'){nt:Nat}(hl:args.length≤nt):FR ι nt (fun t=>args.getD t undef) (args'.toArray++Array.replicate (nt - args'.toArray.size) undef):=by
 have h1:=h.1
 refine⟨by simp;omega,fun t ht=>?_⟩
 rw[Array.getD_eq_getD_getElem?,Array.getElem?_append]
 by_cases hlt:t<args'.length
 ·have hlt2:t<args.length:=by omega
  simp only[List.size_toArray,hlt,if_true]
  have e1:args[t]? = some args[t]:=List.getElem?_eq_getElem hlt2
  obtain⟨v',e2,e3⟩:=h.get e1
  simp only[List.getD,e1,Option.getD_some]
  simp only[List.getElem?_toArray,e2,Option.getD_some]
  exact e3
 ·have hlt2:¬t<args.length:=by omega
  have hin:t - args'.length<nt - args'.length:=by omega
  simp only[List.size_toArray,hlt,if_false]
  simp only[List.getD,List.getElem?_eq_none (Nat.le_of_not_lt hlt2),Option.getD_none]
  simp[hin]
  exact undef_refl ι
theorem sound (hm : P.follows .mixedOrders = true) {j : Job} {o : Out} (h : BS P j o) : M P j o := by
  induction h with
  | skip s => exact fun nt _ => ⟨Mono.refl _ _, fun _ => ⟨exec_same fun Q a w h => wp_skip h, fun b e => by cases e⟩⟩
  | label l s => exact fun nt _ => ⟨Mono.refl _ _, fun _ => ⟨exec_same fun Q a w h => wp_label h, fun b e => by cases e⟩⟩
  | ret s => exact fun nt _ => ⟨Mono.refl _ _, fun _ => ⟨exec_same fun Q a w h => wp_ret h, fun b e => by cases e⟩⟩
  | exit id s => exact fun nt _ => ⟨Mono.refl _ _, fun _ => ⟨exec_same fun Q a w h => wp_exit h, fun b e => by cases e⟩⟩
  | seq _ _ ih1 ih2 =>
    intro nt hok
    simp only [codeOK, Bool.and_eq_true] at hok
    obtain ⟨m1, x1⟩ := ih1 nt hok.1
    obtain ⟨m2, x2⟩ := ih2 nt hok.2
    exact ⟨m1.trans m2, fun hw => ⟨exec_then m1 m2 hw (x1 hw).1 (x2 (m1.wf hw)).1 fun Q a w h => wp_seq h, fun b e => by cases e⟩⟩
  | seqOut he _ ih1 =>
    intro nt hok
    simp only [codeOK, Bool.and_eq_true] at hok
    obtain ⟨m1, x1⟩ := ih1 nt hok.1
    exact ⟨m1, fun hw => ⟨exec_out he (x1 hw).1 fun Q a w h => wp_seq h, fun b e => by cases e⟩⟩
  | @cond x a b s s1 e t hx _ ih =>
    intro nt hok
    simp only [codeOK, Bool.and_eq_true] at hok
    obtain ⟨m1, x1⟩ := ih nt (by cases t; exact hok.2; exact hok.1.2)
    refine ⟨m1, fun hw => ⟨?_, fun b e => by cases e⟩⟩
    intro base ι C ac w hF hd hR hp hf Q hQ
    have hev : VR ι (evalA s.f x) (ac.eval x) := eval_rel (ng := ngl P) (nt := nt) hR.gl hok.1.1 fun t e => by
      subst e
      exact hF.2 t (by simpa [operandOK] using hok.1.1)
    rw [hx] at hev
    generalize hu : ac.eval x = u at hev
    cases hev
    refine wp_cond hu ?_
    have := (x1 hw).1 base ι C ac w hF hd hR hp hf Q hQ
    cases t <;> exact this
  | @block id c s s1 e _ ih =>
    intro nt hok
    obtain ⟨m1, x1⟩ := ih nt hok
    refine ⟨m1, fun hw => ⟨?_, fun b e => by cases e⟩⟩
    intro base ι C a w hF hd hR hp hf Q hQ
    refine wp_block ((x1 hw).1 base ι C a w hF hd hR hp hf _ fun a' w' κ C' hF' hd' ha => ?_)
    have := hQ a' w' κ C' hF' hd' ha
    cases e with
    | normal => exact this
    | ret => exact this
    | exit i =>
      simp only [blockExit] at this
      show if i = id then Q .normal a' w' else Q (.exit i) a' w'
      by_cases e : i = id
      · simp only [e, if_true, exitOf] at this ⊢; exact this
      · simp only [e, if_false, exitOf] at this ⊢; exact this
  | @loop c s s1 s2 e _ _ ih1 ih2 =>
    intro nt hok
    obtain ⟨m1, x1⟩ := ih1 nt hok
    obtain ⟨m2, x2⟩ := ih2 nt hok
    refine ⟨m1.trans m2, fun hw => ?_⟩
    obtain ⟨n, hn⟩ := (x2 (m1.wf hw)).2 c rfl
    have key : Exec P nt s e s2 (fun Q a w => Code.rounds P c Q (n + 1) a w) := exec_then m1 m2 hw (x1 hw).1 hn fun Q a w h => by rw [rounds_succ]; exact h
    refine ⟨?_, fun b e => by cases e; exact ⟨n + 1, key⟩⟩
    intro base ι C a w hF hd hR hp hf Q hQ
    exact wp_loop_rounds (n + 1) (key base ι C a w hF hd hR hp hf Q hQ)
  | @loopOut c s s1 e he _ ih1 =>
    intro nt hok
    obtain ⟨m1, x1⟩ := ih1 nt hok
    refine ⟨m1, fun hw => ?_⟩
    have key : Exec P nt s e s1 (fun Q a w => Code.rounds P c Q (0 + 1) a w) := exec_out (Y := fun Q a w => Code.rounds P c Q 0 a w) he (x1 hw).1 fun Q a w h => by rw [rounds_succ]; exact h
    refine ⟨?_, fun b e => by cases e; exact ⟨0 + 1, key⟩⟩
    intro base ι C a w hF hd hR hp hf Q hQ
    exact wp_loop_rounds (0 + 1) (key base ι C a w hF hd hR hp hf Q hQ)
  | @region id ops s s1 l _ ih =>
    intro nt hok
    simp only [codeOK, Bool.and_eq_true, List.all_eq_true] at hok
    have hc := ih nt hok.1
    refine ⟨hc.mono, fun hw => ⟨?_, fun b e => by cases e⟩⟩
    intro base ι C a w hF hd hR hp hf Q hQ
    refine wp_region ?_
    have := wp_text (Q := Q) hc 0 (fun i o e => by simpa using e) hok.1 hw base ι C a w hF hR hp hf fun a' w' κ C' hF' hd' ha => hQ a' w' κ C' hF' (hd'.trans hd) ha
    rwa [List.range_eq_range', show ops.size = ops.toList.length by simp]
  | @regionDraw id ops s s1 l _ hdr ih =>
    intro nt hok
    simp only [codeOK, Bool.and_eq_true, List.all_eq_true, Bool.not_true, Bool.false_or] at hok
    have hc := ih nt hok.1
    refine ⟨hc.mono, fun hw => ⟨?_, fun b e => by cases e⟩⟩
    intro base ι C a w hF hd hR hp hf Q hQ
    obtain ⟨st, R, h0, h1, h2, h3, h4⟩ := chain_tr hc
    have hsz : ops.toList.length = ops.size := by simp
    rw [hsz] at h1 h2 h3
    have Z : Region0 P nt ops st R base ι C w := by
      refine ⟨⟨fun j o _ e => h4 j o (by simpa using e)⟩, static_of hok.2, fun j o e => hok.1 o (by have := Array.mem_of_getElem? e; simpa using this), fun i j hij x => ?_, fun j hj hcl => ?_, ?_, hR, ?_, ?_⟩
      · have hlt : i < ops.size ∧ j < ops.size := by
          unfold sPairs at hij
          simp only [List.mem_flatMap, List.mem_range, List.mem_filterMap] at hij
          obtain ⟨j', hj', i', hi', e⟩ := hij
          split at e
          · split at e
            · cases e; exact ⟨by omega, hj'⟩
            · cases e
          · cases e
        have := hdr.1 (i, j) hij x
        simp only [writes, touches, h3 i hlt.1, h3 j hlt.2, Option.some.injEq, exists_eq_left'] at this
        exact this
      · obtain ⟨_, e1, e2⟩ := h4 j ops[j] (by rw [Array.getElem?_toList]; exact Array.getElem?_eq_getElem hj)
        rcases hdr.2 j (R j) (h3 j hj) hcl with hs | hs
        · exact .inl hs
        · refine .inr fun x hx => ?_
          have := hs x (by rw [e1]; exact hx)
          rw [e2]; simp only; rw [this, e1]
      · rw [h0]; exact hw
      · rw [h0]; exact hp
      · rw [h0, h1]; exact hf
    refine wp_draw Z hm (by rw [h0]; exact hF) fun a' w' κ C' hF' hd' ha => ?_
    rw [h1] at hF' ha
    rw [h0] at ha
    exact hQ a' w' κ C' hF' (hd'.trans hd) ha
  | opsNil all s => exact fun nt _ => .nil s
  | opsSkip hw _ ih => exact fun nt hok => .cons (r := ⟨_, undef, _, _, [], none, false⟩) (step_skip (hok _ (by simp)) hw) (ih nt fun o ho => hok o (by simp [ho]))
  | @opsOp all o rest s s1 l r hw ha _ ih => exact fun nt hok => .cons (r := ⟨s, r.v, r.next s.n, r.heap s.n s.H, r.rd, r.wr.map (·.1), false⟩) (step_op (hok _ (by simp)) hw ha) (ih nt fun o ho => hok o (by simp [ho]))
  | @opsCall all o rest s s1 l g args v n H hw ha _ _ ih1 ih2 =>
    obtain ⟨hm1, hc, fn, c, hf⟩ := ih1
    exact fun nt hok => .cons (r := ⟨s, v, n, H, [], none, true⟩) (step_call (hok _ (by simp)) hw ha hf hm1 hc) (ih2 nt fun o ho => hok o (by simp [ho]))
  | @call g args n H fn c e s v hf hl _ he hr ih =>
    obtain ⟨m1, x1⟩ := ih fn.ntmps hf.code
    refine ⟨m1, fun hw => ?_, fn, c, hf⟩
    intro base ι C w args' hv hR hp hfr
    refine calls_of_wp hf.get hf.body ?_
    refine (x1 hw).1 base ι C _ w (enter_fr hv hl) rfl hR hp hfr _ fun a' w' κ C' hF' hd' ha => ?_
    obtain ⟨v', e1, e2⟩ := results_run hr hf.results hF' ha.hr (ha.pres hp hw)
    rcases he with rfl | rfl
    · exact ⟨hd', v', e1, v', κ, C', rfl, e2, ha⟩
    · exact ⟨hd', v', e1, v', κ, C', rfl, e2, ha⟩
  | @closed g args v H0 n1 H1 n H _ hdead hglob hfa hfv ih =>
    obtain ⟨_, hcs, hfn⟩ := ih
    refine ⟨Mono.refl n H, fun _ => ?_, hfn⟩
    intro base ι C w args' hv hR hp hfr
    have hlt : ∀ x, H0 x ≠ .dead → x < ngl P := fun x hx => Nat.lt_of_not_le fun h => hx (hdead x h)
    have hgb : ∀ x, x < ngl P → x < w.heap.size := fun x hx => (hR.rng x _ (hR.gl x hx)).1
    have hR0 : HR P w.heap.size (fun x => if x < ngl P then some ⟨x, 0, false, 0, 0⟩ else none) H0 w := by
      refine ⟨fun x => ?_, fun x y t u hx hy ex ey ho => ?_, fun x t e => ?_, Nat.le_refl _, fun g hg => by simp [hg], fun x y t u cs ty b ds ty' hx hy => ?_⟩
      · by_cases hd : H0 x = .dead
        · rw [hd]; trivial
        · obtain ⟨⟨cs, ty, hc, hf⟩, hH⟩ := hglob x hd
          have hx := hlt x hd
          have hi := hR.gl x hx
          have hob := hR.obj x
          rw [hp x (by rw [hi]; intro e; cases e) (by rw [hH]; exact hd), hH, hc] at hob
          obtain ⟨t, ht, _, hcell, _⟩ := hob
          rw [hi] at ht
          cases ht
          rw [hc]
          refine ⟨⟨x, 0, false, 0, 0⟩, by simp [hx], rfl, fun i v e => ?_, fun e => by cases e⟩
          obtain ⟨v', e1, e2, e3⟩ := hcell i v e
          have hv' := List.all_eq_true.1 hf v (List.mem_of_getElem? e)
          rw [flat1_eq hv' e2] at e1
          exact ⟨v, e1, flat1_refl _ hv', e3⟩
      · split at ex
        · cases ex; cases ho
        · cases ex
      · split at e
        · rename_i hx; cases e; exact ⟨hgb x hx, (fun k => by cases k), fun _ => hgb x hx⟩
        · cases e
      · obtain ⟨⟨_, _, hc, _⟩, _⟩ := hglob x (by rw [hx]; intro e; cases e)
        rw [hc] at hx; cases hx
    have hv0 : VRs (fun x => if x < ngl P then some ⟨x, 0, false, 0, 0⟩ else none) args args' := ⟨hv.1, fun i v v' e e' => by
      have hf := List.all_eq_true.1 hfa v (List.mem_of_getElem? e)
      rw [flat1_eq hf (hv.2 i v v' e e')]
      exact flat1_refl _ hf⟩
    refine (hcs (fun x hx => hdead x hx) w.heap.size _ _ w args' hv0 hR0 (fun _ _ _ => rfl) (fun x h1 _ => by rw [if_neg (by omega)])).mono ?_
    rintro e w' ⟨v', κ', C', rfl, hvr, ha⟩
    obtain rfl := flat1_eq hfv hvr
    refine ⟨_, ι, C, rfl, flat1_refl ι hfv, Inj.le_refl ι, fun _ _ => rfl, Ch.refl C H, fun x hx => absurd rfl hx, ⟨fun x => ?_, hR.inj, fun x t e => ⟨Nat.lt_of_lt_of_le (hR.rng x t e).1 ha.below.size, (hR.rng x t e).2⟩, Nat.le_trans hR.size ha.below.size, hR.gl, hR.last⟩, ha.below.mono hR.size⟩
    exact (hR.obj x).carry (Inj.le_refl ι) fun t ht => ha.below.block _ (hR.rng x t ht).1
  | prim hf hm hs => exact ⟨hm, hs, hf⟩
  | @sem g args H0 v n H hs hf hz =>
    obtain ⟨hfn, hrun⟩ := hs
    refine ⟨Mono.refl n H, fun _ => ?_, hfn⟩
    intro base ι C w args' hv hR hp hfr
    obtain ⟨m, hm, hv0, hR0⟩ := hr_cut (H0 := H0) hR (n := n) (fun x hx => by
      obtain ⟨h1, cs, ty, own, h2, h3⟩ := hz x hx
      exact ⟨h1, cs, ty, own, h2, fun hi => (hp x hi (by rw [h3]; intro e; cases e)).trans h3⟩) hv
    refine (hrun _ _ w args' m hv0 hR0 (fun x hi _ => ?_) (fun x hx => ?_) (fun x hx => ?_)).mono ?_
    · cases h : cutI m ι x with
      | none => exact absurd h hi
      | some t =>
        obtain ⟨_, _, u, e, _⟩ := cut_inv h
        simp only [e]
    · unfold cutI
      rw [if_neg (by omega)]
    · apply Classical.byContradiction
      intro hd
      have := (hz x hd).1
      omega
    rintro e w' ⟨rfl, hb⟩
    refine ⟨v, ι, C, rfl, flat_refl ι hf, Inj.le_refl ι, fun _ _ => rfl, Ch.refl C H, fun x hx => absurd rfl hx, ⟨fun x => ?_, hR.inj, fun x t e => ⟨Nat.lt_of_lt_of_le (hR.rng x t e).1 hb.size, (hR.rng x t e).2⟩, Nat.le_trans hR.size hb.size, hR.gl, hR.last⟩, hb.mono hR.size⟩
    exact (hR.obj x).carry (Inj.le_refl ι) fun t ht => hb.block _ (hR.rng x t ht).1
  | @nans g args n H v _ ih =>
    have pick : ∀ (ι : Inj) (args args' : List Value), VRs ι args args' → ∃ l, NRs args l ∧ VRs ι l args' := by
      intro ι args
      induction args with
      | nil => intro args' hv; exact ⟨[], .nil, hv⟩
      | cons x args ih =>
        intro args' hv
        obtain ⟨x', k, rfl, r1, r2⟩ := hv.cons_inv
        obtain ⟨l, h1, h2⟩ := ih k r2
        by_cases hx : x = nanV
        · subst hx
          generalize hu : nanV = u at r1
          cases r1 <;> (try (simp [nanV] at hu; done))
          rename_i b hb
          exact ⟨.float .f64 b :: l, .nan b hb h1, .cons (.float _ _) h2⟩
        · exact ⟨x :: l, .same x hx h1, .cons r1 h2⟩
    have some_ : ∀ args : List Value, ∃ l, NRs args l := by
      intro args
      induction args with
      | nil => exact ⟨[], .nil⟩
      | cons x args ih =>
        obtain ⟨l, h⟩ := ih
        by_cases hx : x = nanV
        · subst hx; exact ⟨_, .nan _ (nan_cut 0) h⟩
        · exact ⟨x :: l, .same x hx h⟩
    obtain ⟨l0, h0⟩ := some_ args
    obtain ⟨_, _, hfn⟩ := ih l0 h0
    refine ⟨Mono.refl n H, fun hw => ?_, hfn⟩
    intro base ι C w args' hv hR hp hfr
    obtain ⟨l, h1, h2⟩ := pick ι args args' hv
    obtain ⟨_, hcs, _⟩ := ih l h1
    exact hcs hw base ι C w args' h2 hR hp hfr
end
end Go.AM
