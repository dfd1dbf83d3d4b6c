/- A part of a proof. Its conditions: none. -/
import Derived.Test.YtjlgpanihjnaeaaGreatDoorAmXAtMv2
import Derived.Test.YtjlgpanihjnaeaaGreatDoorAmC
set_option linter.all false
namespace Go.Proofs.YtjlgpanihjnaeaaGreatDoor
open Go.AM
set_option maxRecDepth 100000
def encB(l:List UInt8):Value:=.string (BA l)
def goodB(l:List UInt8):Prop:=l.length≤1000000
theorem gkB{P:Program}{kt:TypeId}(h:P.underlying kt=some .string):GK P kt encB goodB where
 wide:=by unfold wideK baseK;rw[h];simp
 ok:=fun k hk=>⟨rfl,by
  have:(BA k).size≤maxLen:=by rw[ba_size];unfold goodB at hk;unfold maxLen;omega
  simp[encB,keyOf,h,mapKey,this]⟩
 inj:=fun a b ha hb e=>by
  have:BA a=BA b:=Value.string.inj e
  exact ba_inj this
theorem und_ms:Tryz.prog.underlying 47=some (.map 9 3):=by kernel_rfl
theorem zero_int:((Tryz.prog.info? 3).bind (·.zero))=some (.int .i64 0):=by kernel_rfl
theorem gk:GK Tryz.prog 9 encB goodB:=gkB ust
abbrev SL:=Option Addr × List CA
structure LO(g:Gram)(H:Heap)(s:SL):Prop where
 row:RN 4 ccell H s.1 s.2
 ty:TyC H s.1
 xc:∀z∈s.2,XC H z
 gc:∀z∈s.2,GC g z.1
 alt:∀z∈s.2,0≤z.1.alt∧z.1.alt<48
 srt:Srt s.2
 len:s.2.length≤400
 dp:∀z∈s.2,z.1.stack.length≤64
def KC(H H':Heap):Prop:=∀z cs own,H z=.cells cs 82 own→H' z=.cells cs 82 own
theorem LO.keep{g:Gram}{H H':Heap}{s:SL}(h:LO g H s)(hc:KC H H')(hs:SpK H H'):LO g H' s:=by
 refine⟨?_,fun x k e=>?_,fun z hz=>(h.xc z hz).keep hs,h.gc,h.alt,h.srt,h.len,h.dp⟩
 ·rcases h.row with hn|⟨x,k,cs,ty,own,e1,e2,e3,e4⟩
  ·exact .inl hn
  ·obtain⟨cs',own',e5⟩:=h.ty x k e1
   rw[e2]at e5
   cases e5
   exact .inr ⟨x,k,cs,_,own,e1,hc _ _ _ e2,e3,e4⟩
 ·obtain⟨cs,own,e5⟩:=h.ty x k e
  exact⟨cs,own,hc _ _ _ e5⟩
theorem LO.nil(g:Gram)(H:Heap):LO g H (none,[]):=⟨.inl ⟨rfl,rfl⟩,fun x k e=>by(cases e),fun z hz=>by(cases hz),fun z hz=>by(cases hz),fun z hz=>by(cases hz),List.Pairwise.nil,Nat.zero_le _,fun z hz=>by(cases hz)⟩
theorem KC.kp{n n':Nat}{H H':Heap}(hw:WF n H)(k:Kp n H n' H'):KC H H':=fun z cs own h=>(k.keep z (live_lt hw (live_of h))).trans h
theorem KC.trans{H H1 H2:Heap}(a:KC H H1)(b:KC H1 H2):KC H H2:=fun z cs own h=>b _ _ _ (a _ _ _ h)
structure DS where
 sets:List SL
 rows:List (Nat × List Int)
 rules:List Int
 keys:List (List UInt8)
def Is(d:DS)(k:Nat)(rule:Int)(l:List Cfg):Prop:=d.rules[k]? = some rule∧∃s,d.sets[k]? = some s∧s.2.map (·.1)=l
def keyL(d:DS):List (List UInt8):=(d.rules.zip d.sets).map fun x=>dK x.1 (x.2.2.map (·.1))
def bcv(pt pv pr:Option Addr)(g:Gram)(nn dp pl st mp:Nat)(a b c:Value):List Value :=
 [.slice pt g.terms.length g.terms.length,.slice pv g.vars.length g.vars.length,.slice pr g.rules.length g.rules.length,.pointer (some ⟨nn,0,none⟩),.int .i64 (dp:Nat),.int .i64 (pl:Nat),.int .i64 (st:Nat),a,b,c,.map (some mp)]
section
variable (pt pv pr:Option Addr) (g:Gram) (nn dp pl st mp:Nat) (a b c:Value)
theorem bv0:(bcv pt pv pr g nn dp pl st mp a b c)[0]? = some (.slice pt g.terms.length g.terms.length):=rfl
theorem bv3:(bcv pt pv pr g nn dp pl st mp a b c)[3]? = some (.pointer (some ⟨nn,0,none⟩)):=rfl
theorem bv4:(bcv pt pv pr g nn dp pl st mp a b c)[4]? = some (.int .i64 (dp:Nat)):=rfl
theorem bv5:(bcv pt pv pr g nn dp pl st mp a b c)[5]? = some (.int .i64 (pl:Nat)):=rfl
theorem bv6:(bcv pt pv pr g nn dp pl st mp a b c)[6]? = some (.int .i64 (st:Nat)):=rfl
theorem bv7:(bcv pt pv pr g nn dp pl st mp a b c)[7]? = some a:=rfl
theorem bv8':(bcv pt pv pr g nn dp pl st mp a b c)[8]? = some b:=rfl
theorem bv9:(bcv pt pv pr g nn dp pl st mp a b c)[9]? = some c:=rfl
theorem bv10:(bcv pt pv pr g nn dp pl st mp a b c)[10]? = some (.map (some mp)):=rfl
theorem bvl:(bcv pt pv pr g nn dp pl st mp a b c).length=11:=rfl
theorem bs7(x:Value):AM.splice (bcv pt pv pr g nn dp pl st mp a b c) 7 [x]=bcv pt pv pr g nn dp pl st mp x b c:=rfl
theorem bs8(x:Value):AM.splice (bcv pt pv pr g nn dp pl st mp a b c) 8 [x]=bcv pt pv pr g nn dp pl st mp a x c:=rfl
theorem bs9(x:Value):AM.splice (bcv pt pv pr g nn dp pl st mp a b c) 9 [x]=bcv pt pv pr g nn dp pl st mp a b x:=rfl
end
def rwC(W:Nat)(r:Nat × List Int):Value:=.slice (some ⟨r.1,0,none⟩) W W
def stC(s:SL):Value:=.slice s.1 s.2.length s.2.length
structure BI(g:Gram)(NB bb mp:Nat)(H:Heap)(d:DS)(xN xR xS:Nat):Prop where
 map:H mp=.map (gE encB d.keys 0) d.keys.length 9
 good:∀k∈d.keys,goodB k
 ky:d.keys=keyL d
 next:d.sets≠[]→H xN=.cells (d.rows.map (rwC (g.terms.length+1))) 26 true
 rule:d.sets≠[]→H xR=.cells (d.rules.map (Value.int .i64)) 3 true
 set:d.sets≠[]→H xS=.cells (d.sets.map stC) 53 true
 ge:NB≤bb∧NB≤mp∧NB≤xN∧NB≤xR∧NB≤xS
 ln:d.rows.length=d.sets.length
 lr:d.rules.length=d.sets.length
 lk:d.keys.length=d.sets.length
 row:∀r∈d.rows,H r.1=.cells (r.2.map (Value.int .i64)) 3 true∧r.2.length=g.terms.length+1∧NB≤r.1∧r.1≠xR
 nd:(d.rows.map (·.1)).Nodup
 lo:∀s∈d.sets,LO g H s
structure BO(pt pv pr:Option Addr)(g:Gram)(nn dp pl st:Nat)(NB bb mp:Nat)(H:Heap)(d:DS)(xN xR xS:Nat):Prop where
 obj:H bb=.cells (bcv pt pv pr g nn dp pl st mp (sl xN d.sets.length) (sl xR d.sets.length) (sl xS d.sets.length)) 50 true
 bi:BI g NB bb mp H d xN xR xS
 cap:d.sets.length≤st
 rz:∀(k:Nat) (r:Int) (row:Nat × List Int),d.rules[k]? = some r→d.rows[k]? = some row→Sml r∧(0≤r→∀x∈row.2,x = -1)
theorem live_ltd{n:Nat}{H:Heap}(hw:WF n H){z:Nat}(h:H z≠.dead):z<n:=Nat.lt_of_not_le fun hc=>h (hw z hc)
theorem BI.kp{g:Gram}{NB bb mp n n' xN xR xS:Nat}{H H':Heap}{d:DS}(h:BI g NB bb mp H d xN xR xS)(hw:WF n H)(k:Kp n H n' H'):BI g NB bb mp H' d xN xR xS:=by
 have kk:∀{z o},H z=o→o≠.dead→H' z=o:=fun{z o} e hd=>(k.keep z (live_ltd hw (by rw[e];exact hd))).trans e
 exact⟨kk h.map (by intro e;cases e),h.good,h.ky,fun hn=>kk (h.next hn) (by intro e;cases e),fun hn=>kk (h.rule hn) (by intro e;cases e),fun hn=>kk (h.set hn) (by intro e;cases e),h.ge,h.ln,h.lr,h.lk,fun r hr=>⟨kk (h.row r hr).1 (by intro e;cases e),(h.row r hr).2⟩,h.nd,fun s hs=>(h.lo s hs).keep (KC.kp hw k) (Kp.spk hw k)⟩
theorem BO.kp{pt pv pr:Option Addr}{g:Gram}{nn dp pl st NB bb mp n n' xN xR xS:Nat}{H H':Heap}{d:DS}(h:BO pt pv pr g nn dp pl st NB bb mp H d xN xR xS)(hw:WF n H)(k:Kp n H n' H'):BO pt pv pr g nn dp pl st NB bb mp H' d xN xR xS :=
 ⟨(k.keep bb (live_ltd hw (by rw[h.obj];intro e;cases e))).trans h.obj,h.bi.kp hw k,h.cap,h.rz⟩
theorem BO.more{pt pv pr p:Option Addr}{g:Gram}{nn dp pl st NB bb mp n1 xN xR xS yN yR yS:Nat}{H HF:Heap}{d:DS}{L:List CA}{rule:Int}{key:List UInt8}(hw:WF n1 H)(h:BO pt pv pr g nn dp pl st NB bb mp H d xN xR xS)(hl:LO g H (p,L))(hk:goodB key)(hNn:NB≤n1)(hcp:d.sets.length<st)(hkey:key=dK rule (L.map (·.1)))(hru:Sml rule)
  (fobj:HF bb=.cells (bcv pt pv pr g nn dp pl st mp (sl yN (d.sets.length+1)) (sl yR (d.sets.length+1)) (sl yS (d.sets.length+1))) 50 true)
  (fmap:HF mp=.map (gE encB (d.keys++[key]) 0) (d.keys++[key]).length 9)
  (fN:HF yN=.cells ((d.rows++[(n1,List.replicate (g.terms.length+1) (-1))]).map (rwC (g.terms.length+1))) 26 true)
  (fR:HF yR=.cells ((d.rules++[rule]).map (Value.int .i64)) 3 true)
  (fS:HF yS=.cells ((d.sets++[(p,L)]).map stC) 53 true)
  (frow:HF n1=.cells ((List.replicate (g.terms.length+1) (-1)).map (Value.int .i64)) 3 true)
  (keep:∀z,z<n1→z≠bb→z≠mp→(d.sets≠[]→z≠xN∧z≠xR∧z≠xS)→HF z=H z) (y1:n1<yN) (y2:n1<yR) (y3:n1<yS) :
  SpK H HF∧KC H HF∧BO pt pv pr g nn dp pl st NB bb mp HF ⟨d.sets++[(p,L)],d.rows++[(n1,List.replicate (g.terms.length+1) (-1))],d.rules++[rule],d.keys++[key]⟩ yN yR yS:=by
 have hb:=h.bi
 have hsp:SpK H HF:=fun z cs own hz=>by
  refine(keep z (live_lt hw (live_of hz)) ?_ ?_ fun hne=>⟨?_,?_,?_⟩).trans hz
  ·rintro rfl;rw[h.obj]at hz;simp at hz
  ·rintro rfl;rw[hb.map]at hz;cases hz
  ·rintro rfl;rw[hb.next hne]at hz;simp at hz
  ·rintro rfl;rw[hb.rule hne]at hz;simp at hz
  ·rintro rfl;rw[hb.set hne]at hz;simp at hz
 have hkc:KC H HF:=fun z cs own hz=>by
  refine(keep z (live_lt hw (live_of hz)) ?_ ?_ fun hne=>⟨?_,?_,?_⟩).trans hz
  ·rintro rfl;rw[h.obj]at hz;simp at hz
  ·rintro rfl;rw[hb.map]at hz;cases hz
  ·rintro rfl;rw[hb.next hne]at hz;simp at hz
  ·rintro rfl;rw[hb.rule hne]at hz;simp at hz
  ·rintro rfl;rw[hb.set hne]at hz;simp at hz
 have hrn:∀r∈d.rows,r.1<n1:=fun r hr=>live_lt hw (live_of (hb.row r hr).1)
 refine⟨hsp,hkc,?_,?_,by simp;omega,fun k r row e1 e2=>?_⟩
 ·simp only[List.length_append,List.length_singleton];exact fobj
 ·refine⟨fmap,fun k hk'=>?_,?_,fun _=>fN,fun _=>fR,fun _=>fS,⟨hb.ge.1,hb.ge.2.1,by omega,by omega,by omega⟩,?_,?_,?_,fun r hr=>?_,?_,fun s hs=>?_⟩
  ·rcases List.mem_append.1 hk' with h1|h1
   ·exact hb.good k h1
   ·rw[List.mem_singleton]at h1;rw[h1];exact hk
  ·show d.keys++[key]=((d.rules++[rule]).zip (d.sets++[(p,L)])).map _
   rw[List.zip_append hb.lr,List.map_append,hb.ky,hkey]
   rfl
  ·simp[hb.ln]
  ·simp[hb.lr]
  ·simp[hb.lk]
  ·rcases List.mem_append.1 hr with h1|h1
   ·obtain⟨r1,r2,r3,r4⟩:=hb.row r h1
    have hne:d.sets≠[]:=by
     intro e
     have:=hb.ln
     rw[e,List.length_nil]at this
     rw[List.eq_nil_of_length_eq_zero this]at h1
     cases h1
    refine⟨(keep r.1 (hrn r h1) ?_ ?_ fun hne=>⟨?_,r4,?_⟩).trans r1,r2,r3,by have:=hrn r h1;omega⟩
    ·intro e;rw[e,h.obj]at r1;simp at r1
    ·intro e;rw[e,hb.map]at r1;cases r1
    ·intro e;rw[e,hb.next hne]at r1;simp at r1
    ·intro e;rw[e,hb.set hne]at r1;simp at r1
   ·rw[List.mem_singleton]at h1
    rw[h1]
    exact⟨frow,List.length_replicate,hNn,by show n1≠yR;omega⟩
  ·rw[List.map_append,List.nodup_append]
   refine⟨hb.nd,by simp,fun a ha b hb'=>?_⟩
   obtain⟨r,hr,rfl⟩:=List.mem_map.1 ha
   simp at hb'
   have:=hrn r hr
   omega
  ·rcases List.mem_append.1 hs with h1|h1
   ·exact(hb.lo s h1).keep hkc hsp
   ·rw[List.mem_singleton]at h1
    rw[h1]
    exact hl.keep hkc hsp
 ·simp only at e1 e2
  by_cases hk:k<d.sets.length
  ·rw[List.getElem?_append_left (by rw[hb.lr];exact hk)]at e1
   rw[List.getElem?_append_left (by rw[hb.ln];exact hk)]at e2
   exact h.rz k r row e1 e2
  ·have hkl:=(List.getElem?_eq_some_iff.1 e1).1
   rw[List.length_append,List.length_singleton,hb.lr]at hkl
   rw[show k=d.rules.length by rw[hb.lr];omega,List.getElem?_concat_length]at e1
   rw[show k=d.rows.length by rw[hb.ln];omega,List.getElem?_concat_length]at e2
   cases e1
   cases e2
   exact⟨hru,fun _ x hx=>List.eq_of_mem_replicate hx⟩
theorem key_at{d:DS}{rule:Int}{L:List Cfg}{key:List UInt8}{k:Nat}(h:d.keys=keyL d)(h2:d.keys[k]? = some key)(hk:dK rule L=key):Is d k rule L:=by
 rw[h]at h2
 unfold keyL at h2
 rw[List.getElem?_map]at h2
 obtain⟨⟨r,s⟩,h3,h4⟩:=Option.map_eq_some_iff.1 h2
 rw[List.getElem?_zip_eq_some]at h3
 obtain⟨e1,e2⟩:=dK_inj (h4.trans hk.symm)
 simp only at e1 e2 h3
 exact⟨by rw[h3.1,e1],s,h3.2,e2⟩
set_option maxHeartbeats 16000000 in
theorem dadd_gives{pt pv pr p:Option Addr}{g:Gram}{nn dp pl st NB bb mp n xN xR xS:Nat}{H:Heap}{d:DS}{L:List CA}{rule:Int}(hw:WF n H)(hb:BO pt pv pr g nn dp pl st NB bb mp H d xN xR xS)(hst:st≤256)(hl:LO g H (p,L))(hr:Sml rule)(hs:∀z∈L,SmlC z.1)(hgt:g.terms.length≤64)(hNn:NB≤n) :
  GivesX Tryz.prog (fun z=>NB≤z) 34 [.pointer (some ⟨bb,0,none⟩),.slice p L.length L.length,.int .i64 rule] n H fun v _ H'=>SpK H H'∧KC H H'∧∃(b:Bool) (q:Int) (d':DS) (yN yR yS:Nat),v=.tuple #[.int .i64 q,.bool b]∧BO pt pv pr g nn dp pl st NB bb mp H' d' yN yR yS∧d.sets <+: d'.sets∧d.rules <+: d'.rules∧d.rows <+: d'.rows∧d'.sets.length≤d.sets.length+1∧(b=true→∃k:Nat,q=(k:Nat)∧Is d' k rule (L.map (·.1))):=by
 refine GivesX.of orders ok34 (Nat.le_of_ble_eq_true rfl) ?_
 have hbbn:=live_lt hw (live_of hb.obj)
 repeat (first|refine qqm rfl ?_|((first|refine qqr ?_|refine qqt ?_);simp only[SS,qx31,simprocAttr,ff_34]))
 refine AtCall.by (key_gives hw hl.row (fun z hz=>(hl.xc z hz).1) hr hs hl.len) ?_
 rintro _ n1 H1 k1 rfl
 have hw1:=k1.wf hw
 have hle1:=k1.le
 have hb1:=hb.kp hw k1
 have hl1:LO g H1 (p,L):=hl.keep (KC.kp hw k1) (Kp.spk hw k1)
 have hgd:goodB (dK rule (L.map (·.1))):=Nat.le_trans (dK_len hr (fun c hc=>by
  obtain⟨z,hz,rfl⟩:=List.mem_map.1 hc
  exact hs z hz) (by rw[List.length_map];exact hl.len)) (by omega)
 have hmp:=hb1.bi.map
 have hobj:=hb1.obj
 have hlk:=hb1.bi.lk
 have henc:Value.string (BA (dK rule (L.map (·.1))))=encB (dK rule (L.map (·.1))):=rfl
 rw[henc]
 generalize hkey:dK rule (L.map (·.1))=key at *
 by_cases hmem:key∈d.keys
 ·have hl1:=gk.look_yes hgd hb1.bi.good hmem und_ms hmp true
  simp only[SS,qx31,simprocAttr,hobj,bv10,bvl,aop_nc,tnc,aop_look,hl1,ff_34]
  repeat (first|refine qqm rfl ?_|((first|refine qqr ?_|refine qqt ?_);simp only[SS,qx31,simprocAttr,hobj,bv10,bvl,aop_nc,tnc,aop_look,hl1,ff_34]))
  refine WK.retNil ⟨Or.inr rfl,_,rfl,fun z hz _=>k1.keep z hz,Kp.spk hw k1,KC.kp hw k1,true,_,d,xN,xR,xS,rfl,hb1,List.prefix_rfl,List.prefix_rfl,List.prefix_rfl,Nat.le_succ _,fun _=>⟨_,rfl,key_at hb1.bi.ky (idx_at hmem) hkey⟩⟩
 have hl1:=gk.look_no hgd hb1.bi.good hmem und_ms zero_int hmp true
 have hsl:d.sets.length≤256∨256<d.sets.length:=by omega
 by_cases hcap:d.sets.length<st
 case neg =>
  have hcap':((st:Int)≤(d.sets.length:Int))=True:=eq_true (by omega)
  have hle:∃a,sl xS d.sets.length=.slice a d.sets.length d.sets.length:=⟨_,sl_eq _ _⟩
  obtain⟨aS,haS⟩:=hle
  simp only[SS,qx31,simprocAttr,hobj,bv10,bvl,aop_nc,tnc,aop_look,hl1,ff_34]
  repeat (first|refine qqm rfl ?_|((first|refine qqr ?_|refine qqt ?_);simp only[SS,qx31,simprocAttr,hobj,bv6,bv9,bv10,bvl,haS,hcap',aop_nc,tnc,aop_look,hl1,decide_true,ff_34]))
  refine WK.retNil ⟨Or.inr rfl,_,rfl,fun z hz _=>k1.keep z hz,Kp.spk hw k1,KC.kp hw k1,false,_,d,xN,xR,xS,rfl,hb1,List.prefix_rfl,List.prefix_rfl,List.prefix_rfl,Nat.le_succ _,fun h=>by cases h⟩
 have hcap':((st:Int)≤(d.sets.length:Int))=False:=eq_false (by omega)
 obtain⟨aS,haS⟩:∃a,sl xS d.sets.length=.slice a d.sets.length d.sets.length:=⟨_,sl_eq _ _⟩
 have hput:=gk.put hgd hb1.bi.good hmem und_ms hmp
 rw[hlk]at hput
 have hne:bb≠mp:=by intro e;rw[e,hmp]at hobj;cases hobj
 have hge:=hb1.bi.ge
 have mm:∀o,hset H1 mp o bb=_:=fun o=>(hset_ne _ _ _ hne).trans hobj
 have hwc:IntKind.i64.wrap ((g.terms.length:Int)+1)=((g.terms.length+1:Nat):Int):=by rw[wrap_in (by omega) (by omega)];rfl
 simp only[SS,qx31,simprocAttr,hobj,bv10,bvl,aop_nc,tnc,aop_look,hl1,ff_34]
 have h0w:((0:Int)≤((g.terms.length+1:Nat):Int))=True:=eq_true (by omega)
 have hib:(((g.terms.length+1:Nat):Int)≤(bigN:Int))=True:=eq_true (by unfold bigN;omega)
 have hz0:[Value.int .i64 (Int.ofNat 0)]=[Value.int .i64 0]:=rfl
 repeat (first|refine qqm rfl ?_|((first|refine qqr ?_|refine qqt ?_);simp only[SS,qx31,simprocAttr,hobj,bv0,bv6,bv9,bv10,bvl,haS,hcap',aop_nc,tnc,aop_look,aop_mapset,hl1,hput,mm,hwc,h0w,hib,hz0,rep_ints,decide_false,Int.toNat_natCast,ff_34]))
 refine WK.loop (fun kk s=>∃(i:Nat) (l:List Int),s.n=n1+1∧s.H=hset (hset H1 mp (.map (gE encB (d.keys++[key]) 0) (d.keys++[key]).length 9)) n1 (.cells (l.map (Value.int .i64)) 3 true)∧l.length=g.terms.length+1∧(∀q,q<i→l[q]? = some (-1))∧s.f 0=.pointer (some ⟨bb,0,none⟩)∧s.f 1=.slice p L.length L.length∧s.f 2=.int .i64 rule∧s.f 11=.slice (some ⟨n1,0,none⟩) (g.terms.length+1) (g.terms.length+1)∧s.f 56=.int .i64 ((g.terms.length+1:Nat))∧s.f 57=.int .i64 (i:Nat)∧i≤g.terms.length+1∧kk=g.terms.length+1 - i) (g.terms.length+1) ?_ ?_
 ·exact⟨0,List.replicate (g.terms.length+1) 0,rfl,rfl,List.length_replicate,fun q h=>absurd h (Nat.not_lt_zero _),rfl,rfl,rfl,rfl,rfl,rfl,Nat.zero_le _,rfl⟩
 rintro kk ⟨f,n2,H2⟩ ⟨i,l,e1,e2,hll,hlq,f0,f1,f2,f11,f56,f57,hil,rfl⟩ ih
 simp only at e1 e2 f0 f1 f2 f11 f56 f57 ih
 subst e1 e2
 by_cases hlt:i<g.terms.length+1
 ·have hlt':((i:Int)<((g.terms.length+1:Nat):Int))=True:=eq_true (by omega)
  have hiw:IntKind.i64.wrap ((i:Int)+1)=((i+1:Nat):Int):=by rw[wrap_in (by omega) (by omega)];rfl
  have hsetl:(l.map (Value.int .i64)).set i (.int .i64 (-1))=(l.set i (-1)).map (Value.int .i64):=List.map_set.symm
  have hli:i+1≤(l.map (Value.int .i64)).length:=by rw[List.length_map];omega
  have hli2:i<(l.map (Value.int .i64)).length:=by omega
  repeat (first|refine qqm rfl ?_|((first|refine qqr ?_|refine qqt ?_);simp only[SS,qx31,simprocAttr,f11,f56,f57,hlt',hlt,hiw,hsetl,hli,hli2,hset_at,hset_hset,Nat.zero_add,ff_34]))
  refine ih (g.terms.length+1 - (i+1)) (by omega) _ ?_
  refine⟨i+1,l.set i (-1),rfl,rfl,by rw[List.length_set];exact hll,fun q hq=>?_,f0,f1,f2,f11,f56,rfl,hlt,rfl⟩
  rw[List.getElem?_set]
  by_cases e:i=q
  ·rw[if_pos e,if_pos (by omega)]
  ·rw[if_neg e];exact hlq q (by omega)
 obtain rfl:i=g.terms.length+1:=by omega
 obtain rfl:l=List.replicate (g.terms.length+1) (-1):=List.eq_replicate_iff.2 ⟨hll,fun b hb=>by
  obtain⟨q,hq,rfl⟩:=List.getElem_of_mem hb
  have:=hlq q (by omega)
  rw[List.getElem?_eq_getElem hq]at this
  simpa using this⟩
 clear hlq ih hll
 have d1:∀{z o},H1 z=o→o≠.dead→z<n1:=fun{z o} e hd=>live_ltd hw1 (by rw[e];exact hd)
 have hmpn:=d1 hmp (by intro e;cases e)
 have hbbn1:=d1 hobj (by intro e;cases e)
 have kx3:Kx (fun z=>NB≤z) n H (n1+1) (hset (hset H1 mp (.map (gE encB (d.keys++[key]) 0) (d.keys++[key]).length 9)) n1 (.cells ((List.replicate (g.terms.length+1) (-1)).map (Value.int .i64)) 3 true)):=((k1.kx (X:=fun z=>NB≤z)).set (x:=mp) _ (.inl hge.2.1) hmpn).trans (Kp.new n1 _ _).kx
 have o3:∀z,z≠mp→z<n1→hset (hset H1 mp (.map (gE encB (d.keys++[key]) 0) (d.keys++[key]).length 9)) n1 (.cells ((List.replicate (g.terms.length+1) (-1)).map (Value.int .i64)) 3 true) z=H1 z:=fun z h1 h2=>(hset_ne _ _ _ (by omega)).trans (hset_ne _ _ _ h1)
 have hmp3:hset (hset H1 mp (.map (gE encB (d.keys++[key]) 0) (d.keys++[key]).length 9)) n1 (.cells ((List.replicate (g.terms.length+1) (-1)).map (Value.int .i64)) 3 true) mp=_:=(hset_ne _ _ _ (by omega)).trans (hset_at _ _ _)
 have hrw3:=hset_at (hset H1 mp (.map (gE encB (d.keys++[key]) 0) (d.keys++[key]).length 9)) n1 (.cells ((List.replicate (g.terms.length+1) (-1)).map (Value.int .i64)) 3 true)
 generalize hset (hset H1 mp (.map (gE encB (d.keys++[key]) 0) (d.keys++[key]).length 9)) n1 (.cells ((List.replicate (g.terms.length+1) (-1)).map (Value.int .i64)) 3 true)=H3 at *
 have hbb3:=(o3 bb hne hbbn1).trans hobj
 obtain⟨n3,hn3⟩:∃n3,n3=n1+1:=⟨_,rfl⟩
 have hqq:IntKind.i64.wrap (((d.sets.length+1:Nat):Int) - 1)=((d.sets.length:Nat):Int):=by rw[wrap_in (by omega) (by omega)];omega
 rw[←hn3]at kx3 ⊢
 have hltw:¬g.terms.length+1<g.terms.length+1:=Nat.lt_irrefl _
 have hltw':(((g.terms.length+1:Nat):Int)<((g.terms.length+1:Nat):Int))=False:=eq_false (by omega)
 have post:∀(HF:Heap) (q:Int) (yN yR yS:Nat),q=((d.sets.length:Nat):Int)→(SpK H1 HF∧KC H1 HF∧BO pt pv pr g nn dp pl st NB bb mp HF ⟨d.sets++[(p,L)],d.rows++[(n1,List.replicate (g.terms.length+1) (-1))],d.rules++[rule],d.keys++[key]⟩ yN yR yS)→SpK H HF∧KC H HF∧∃(b:Bool) (q':Int) (d':DS) (yN yR yS:Nat),Value.tuple #[.int .i64 q,.bool true]=.tuple #[.int .i64 q',.bool b]∧BO pt pv pr g nn dp pl st NB bb mp HF d' yN yR yS∧d.sets <+: d'.sets∧d.rules <+: d'.rules∧d.rows <+: d'.rows∧d'.sets.length≤d.sets.length+1∧(b=true→∃k:Nat,q'=(k:Nat)∧Is d' k rule (L.map (·.1))):=fun HF q yN yR yS hq ⟨g1,g2,g3⟩ =>
  ⟨(Kp.spk hw k1).trans g1,(KC.kp hw k1).trans g2,true,q,_,yN,yR,yS,rfl,g3,List.prefix_append _ _,List.prefix_append _ _,List.prefix_append _ _,by simp,fun _=>⟨d.sets.length,hq,by simp[hb1.bi.lr],(p,L),by simp,rfl⟩⟩
 by_cases h0:d.sets=[]
 ·have hk0:d.sets.length=0:=by rw[h0];rfl
  have hqq0:IntKind.i64.wrap (((1:Nat):Int) - 1)=((d.sets.length:Nat):Int):=by rw[hk0];decide
  rw[hk0,sl_zero,sl_zero,sl_zero]at hbb3
  have r1:∀A C,hset (hset H3 n3 A) (n3+1) C bb=_:=fun A C=>(hset_ne _ _ _ (by omega)).trans ((hset_ne _ _ _ (by omega)).trans hbb3)
  have r2:∀A C D E,hset (hset (hset (hset H3 n3 A) (n3+1) C) (n3+1+1) D) (n3+1+1+1) E bb=_:=fun A C D E=>(hset_ne _ _ _ (by omega)).trans ((hset_ne _ _ _ (by omega)).trans (r1 A C))
  have r3:∀A C D E F G,hset (hset (hset (hset (hset (hset H3 n3 A) (n3+1) C) (n3+1+1) D) (n3+1+1+1) E) (n3+1+1+1+1) F) (n3+1+1+1+1+1) G bb=_:=fun A C D E F G=>(hset_ne _ _ _ (by omega)).trans ((hset_ne _ _ _ (by omega)).trans (r2 A C D E))
  repeat refine qqn rfl ?_
  (refine qqr ?_;simp only[SS,qx31,simprocAttr,f56,f57,hltw',ff_34])
  repeat refine qqn rfl ?_
  refine qqm rfl ?_
  repeat refine qqn rfl ?_
  (refine WK.rgl [(9,14),(9,22),(17,22)] (by kernel_rfl) ?_;simp only[wl,wl1_false,wl1_true,wl2_none,wl2_some,wl3_some,wl3_none,SS,forall_const,wx,tguard,acallee,top,tval,fput,tor,vsh,vbin,tload,tload2,tload3,tstore,tstore2,tstore3,Go.AM.splice,one,tidx,tidx2,tidx3,tfa,tfa2,tlen2,tlen3,textr,tmake,tbs,tbs2,afill,tap,tap2,tap3,tap4,tsrc,tsrc2,simprocAttr,f0,f1,f2,f11,hbb3,r1,r2,r3,bv7,bv8',bv9,bvl,bs7,bs8,bs9,aop_nc,tnc,hset_at,hset_hset,List.drop_zero,Nat.le_refl,ff_34])
  refine⟨light_cons rfl rfl lapart_rr (light_cons rfl rfl lapart_rr (light_cons rfl rfl lapart_rr light_nil)),?_⟩
  have e1:sl (n3+1+1+1) (d.sets.length+1)=.slice (some ⟨n3+1+1+1,0,none⟩) 1 1:=by rw[hk0];rfl
  have e2:sl (n3+1+1+1+1+1) (d.sets.length+1)=.slice (some ⟨n3+1+1+1+1+1,0,none⟩) 1 1:=by rw[hk0];rfl
  have e3:sl (n3+1) (d.sets.length+1)=.slice (some ⟨n3+1,0,none⟩) 1 1:=by rw[hk0];rfl
  have rows0:d.rows=[]:=List.eq_nil_of_length_eq_zero (by rw[hb1.bi.ln,hk0])
  have rules0:d.rules=[]:=List.eq_nil_of_length_eq_zero (by rw[hb1.bi.lr,hk0])
  have hmore:=fun HF f1 f2 f3 f4 f5 f6 f7=>BO.more (yN:=n3+1+1+1) (yR:=n3+1+1+1+1+1) (yS:=n3+1) (rule:=rule) (HF:=HF) hw1 hb1 ‹LO g H1 (p,L)› hgd (by omega) hcap hkey.symm hr f1 f2 f3 f4 f5 f6 f7 (by omega) (by omega) (by omega)
  rw[e1,e2,e3]at hmore
  repeat refine qqn rfl ?_
  (refine qqr ?_;simp only[SS,qx31,simprocAttr,f0,hset_at,bv9,bvl,aop_nc,tnc,ff_34])
  repeat refine qqn rfl ?_
  have c2:∀A C z,z<n3→hset (hset H3 n3 A) (n3+1) C z=H3 z:=fun A C z hz=>(hset_ne _ _ _ (by omega)).trans (hset_ne _ _ _ (by omega))
  have c6:∀A C D E F G z,z<n3→hset (hset (hset (hset (hset (hset H3 n3 A) (n3+1) C) (n3+1+1) D) (n3+1+1+1) E) (n3+1+1+1+1) F) (n3+1+1+1+1+1) G z=H3 z:=fun A C D E F G z hz=>(hset_ne _ _ _ (by omega)).trans ((hset_ne _ _ _ (by omega)).trans ((hset_ne _ _ _ (by omega)).trans ((hset_ne _ _ _ (by omega)).trans (c2 A C z hz))))
  have kF:∀A C D E F G I,Kx (fun z=>NB≤z) n H (n3+1+1+1+1+1+1) (hset (hset (hset (hset (hset (hset (hset H3 n3 A) (n3+1) C) (n3+1+1) D) (n3+1+1+1) E) (n3+1+1+1+1) F) (n3+1+1+1+1+1) G) bb I):=fun A C D E F G I=>((((((kx3.trans (Kp.new n3 H3 A).kx).trans (Kp.new (n3+1) _ C).kx).trans (Kp.new (n3+1+1) _ D).kx).trans (Kp.new (n3+1+1+1) _ E).kx).trans (Kp.new (n3+1+1+1+1) _ F).kx).trans (Kp.new (n3+1+1+1+1+1) _ G).kx).set (x:=bb) I (.inl hge.1) (by omega)
  refine WK.retNil ⟨Or.inr rfl,_,rfl,(kF _ _ _ _ _ _ _).keep,post _ _ _ _ _ hqq0 (hmore _ (hset_at _ _ _) ((hset_ne _ _ _ (Ne.symm hne)).trans ((c6 _ _ _ _ _ _ mp (by omega)).trans hmp3)) ((hset_ne _ _ _ (by omega)).trans ((hset_ne _ _ _ (by omega)).trans ((hset_ne _ _ _ (by omega)).trans ((hset_at _ _ _).trans (by rw[rows0];rfl))))) ((hset_ne _ _ _ (by omega)).trans ((hset_at _ _ _).trans (by rw[rules0];rfl))) ((hset_ne _ _ _ (by omega)).trans ((hset_ne _ _ _ (by omega)).trans ((hset_ne _ _ _ (by omega)).trans ((hset_ne _ _ _ (by omega)).trans ((hset_ne _ _ _ (by omega)).trans ((hset_at _ _ _).trans (by rw[h0];rfl))))))) ((hset_ne _ _ _ (by omega)).trans ((c6 _ _ _ _ _ _ n1 (by omega)).trans hrw3)) fun z hz h1 h2 _=>(hset_ne _ _ _ h1).trans ((c6 _ _ _ _ _ _ z (by omega)).trans (o3 z h2 hz)))⟩
 ·have hk0:d.sets.length≠0:=fun e=>h0 (List.eq_nil_of_length_eq_zero e)
  have hxN:=hb1.bi.next h0
  have hxR:=hb1.bi.rule h0
  have hxS:=hb1.bi.set h0
  have hxNn:=d1 hxN (by intro e;cases e)
  have hxRn:=d1 hxR (by intro e;cases e)
  have hxSn:=d1 hxS (by intro e;cases e)
  have t1:xN≠mp:=by intro e;rw[e,hmp]at hxN;cases hxN
  have t2:xR≠mp:=by intro e;rw[e,hmp]at hxR;cases hxR
  have t3:xS≠mp:=by intro e;rw[e,hmp]at hxS;cases hxS
  have t4:xN≠bb:=by intro e;rw[e,hobj]at hxN;simp at hxN
  have t5:xR≠bb:=by intro e;rw[e,hobj]at hxR;simp at hxR
  have t6:xS≠bb:=by intro e;rw[e,hobj]at hxS;simp at hxS
  have t7:xN≠xR:=by intro e;rw[e,hxR]at hxN;simp at hxN
  have t8:xN≠xS:=by intro e;rw[e,hxS]at hxN;simp at hxN
  have t9:xR≠xS:=by intro e;rw[e,hxS]at hxR;simp at hxR
  have hxN3:=(o3 xN t1 hxNn).trans hxN
  have hxR3:=(o3 xR t2 hxRn).trans hxR
  have hxS3:=(o3 xS t3 hxSn).trans hxS
  rw[sl_pos hk0,sl_pos hk0,sl_pos hk0]at hbb3
  have q1:∀A,hset H3 n3 A xS=_:=fun A=>(hset_ne _ _ _ (by omega)).trans hxS3
  have r1:∀A B C,hset (hset (hset H3 n3 A) xS B) (n3+1) C bb=_:=fun A B C=>(hset_ne _ _ _ (by omega)).trans ((hset_ne _ _ _ (by omega)).trans ((hset_ne _ _ _ (by omega)).trans (hbb3)))
  have q2:∀A B C D,hset (hset (hset (hset H3 n3 A) xS B) (n3+1) C) (n3+1+1) D xN=_:=fun A B C D=>(hset_ne _ _ _ (by omega)).trans ((hset_ne _ _ _ (by omega)).trans ((hset_ne _ _ _ (by omega)).trans ((hset_ne _ _ _ (by omega)).trans (hxN3))))
  have r2:∀A B C D E F,hset (hset (hset (hset (hset (hset H3 n3 A) xS B) (n3+1) C) (n3+1+1) D) xN E) (n3+1+1+1) F bb=_:=fun A B C D E F=>(hset_ne _ _ _ (by omega)).trans ((hset_ne _ _ _ (by omega)).trans ((hset_ne _ _ _ (by omega)).trans ((hset_ne _ _ _ (by omega)).trans ((hset_ne _ _ _ (by omega)).trans ((hset_ne _ _ _ (by omega)).trans (hbb3))))))
  have q3:∀A B C D E F G,hset (hset (hset (hset (hset (hset (hset H3 n3 A) xS B) (n3+1) C) (n3+1+1) D) xN E) (n3+1+1+1) F) (n3+1+1+1+1) G xR=_:=fun A B C D E F G=>(hset_ne _ _ _ (by omega)).trans ((hset_ne _ _ _ (by omega)).trans ((hset_ne _ _ _ (by omega)).trans ((hset_ne _ _ _ (by omega)).trans ((hset_ne _ _ _ (by omega)).trans ((hset_ne _ _ _ (by omega)).trans ((hset_ne _ _ _ (by omega)).trans (hxR3)))))))
  have r3:∀A B C D E F G I J,hset (hset (hset (hset (hset (hset (hset (hset (hset H3 n3 A) xS B) (n3+1) C) (n3+1+1) D) xN E) (n3+1+1+1) F) (n3+1+1+1+1) G) xR I) (n3+1+1+1+1+1) J bb=_:=fun A B C D E F G I J=>(hset_ne _ _ _ (by omega)).trans ((hset_ne _ _ _ (by omega)).trans ((hset_ne _ _ _ (by omega)).trans ((hset_ne _ _ _ (by omega)).trans ((hset_ne _ _ _ (by omega)).trans ((hset_ne _ _ _ (by omega)).trans ((hset_ne _ _ _ (by omega)).trans ((hset_ne _ _ _ (by omega)).trans ((hset_ne _ _ _ (by omega)).trans (hbb3)))))))))
  have bl:d.sets.length+1≤bigN:=by unfold bigN;omega
  have ct1:[n3].contains xS=false:=by simp;omega
  have ct2:[n3+1+1].contains xN=false:=by simp;omega
  have ct3:[n3+1+1+1+1].contains xR=false:=by simp;omega
  have lS:(d.sets.map stC).length=d.sets.length:=List.length_map _
  have lN:(d.rows.map (rwC (g.terms.length+1))).length=d.sets.length:=by rw[List.length_map,hb1.bi.ln]
  have lR:(d.rules.map (Value.int .i64)).length=d.sets.length:=by rw[List.length_map,hb1.bi.lr]
  have kS:(d.sets.map stC).take d.sets.length=d.sets.map stC:=List.take_of_length_le (by omega)
  have kN:(d.rows.map (rwC (g.terms.length+1))).take d.sets.length=d.rows.map (rwC (g.terms.length+1)):=List.take_of_length_le (by omega)
  have kR:(d.rules.map (Value.int .i64)).take d.sets.length=d.rules.map (Value.int .i64):=List.take_of_length_le (by omega)
  repeat refine qqn rfl ?_
  (refine qqr ?_;simp only[SS,qx31,simprocAttr,f56,f57,hltw',ff_34])
  repeat refine qqn rfl ?_
  refine qqm rfl ?_
  repeat refine qqn rfl ?_
  (refine WK.rgl [(9,14),(9,22),(17,22)] (by kernel_rfl) ?_;simp only[wl,wl1_false,wl1_true,wl2_none,wl2_some,wl3_some,wl3_none,SS,forall_const,wx,tguard,acallee,top,tval,fput,tor,vsh,vbin,tload,tload2,tload3,tstore,tstore2,tstore3,Go.AM.splice,one,tidx,tidx2,tidx3,tfa,tfa2,tlen2,tlen3,textr,tmake,tbs,tbs2,afill,tap,tap2,tap3,tap4,tsrc,tsrc2,simprocAttr,f0,f1,f2,f11,hbb3,q1,q2,q3,r1,r2,r3,bl,ct1,ct2,ct3,lS,lN,lR,kS,kN,kR,bv7,bv8',bv9,bvl,bs7,bs8,bs9,aop_nc,tnc,hset_at,hset_hset,List.drop_zero,Nat.le_refl,Nat.mul_one,Nat.zero_add,ff_34])
  refine⟨light_cons rfl rfl (lapart_wr (by simp;omega)) (light_cons rfl rfl (lapart_wr (by simp;omega)) (light_cons rfl rfl (lapart_wr (by simp;omega)) light_nil)),?_⟩
  have e1:sl (n3+1+1+1) (d.sets.length+1)=.slice (some ⟨n3+1+1+1,0,none⟩) (d.sets.length+1) (d.sets.length+1):=rfl
  have e2:sl (n3+1+1+1+1+1) (d.sets.length+1)=.slice (some ⟨n3+1+1+1+1+1,0,none⟩) (d.sets.length+1) (d.sets.length+1):=rfl
  have e3:sl (n3+1) (d.sets.length+1)=.slice (some ⟨n3+1,0,none⟩) (d.sets.length+1) (d.sets.length+1):=rfl
  have hmore:=fun HF f1 f2 f3 f4 f5 f6 f7=>BO.more (yN:=n3+1+1+1) (yR:=n3+1+1+1+1+1) (yS:=n3+1) (rule:=rule) (HF:=HF) hw1 hb1 ‹LO g H1 (p,L)› hgd (by omega) hcap hkey.symm hr f1 f2 f3 f4 f5 f6 f7 (by omega) (by omega) (by omega)
  rw[e1,e2,e3]at hmore
  repeat refine qqn rfl ?_
  (refine qqr ?_;simp only[SS,qx31,simprocAttr,f0,hset_at,bv9,bvl,aop_nc,tnc,ff_34])
  repeat refine qqn rfl ?_
  have c9:∀A B C D E F G I J z,z<n3→z≠xS→z≠xN→z≠xR→hset (hset (hset (hset (hset (hset (hset (hset (hset H3 n3 A) xS B) (n3+1) C) (n3+1+1) D) xN E) (n3+1+1+1) F) (n3+1+1+1+1) G) xR I) (n3+1+1+1+1+1) J z=H3 z:=fun A B C D E F G I J z hz z1 z2 z3=>(hset_ne _ _ _ (by omega)).trans ((hset_ne _ _ _ (by omega)).trans ((hset_ne _ _ _ (by omega)).trans ((hset_ne _ _ _ (by omega)).trans ((hset_ne _ _ _ (by omega)).trans ((hset_ne _ _ _ (by omega)).trans ((hset_ne _ _ _ (by omega)).trans ((hset_ne _ _ _ (by omega)).trans ((hset_ne _ _ _ (by omega))))))))))
  have kF:∀A B C D E F G I J K,Kx (fun z=>NB≤z) n H (n3+1+1+1+1+1+1) (hset (hset (hset (hset (hset (hset (hset (hset (hset (hset H3 n3 A) xS B) (n3+1) C) (n3+1+1) D) xN E) (n3+1+1+1) F) (n3+1+1+1+1) G) xR I) (n3+1+1+1+1+1) J) bb K):=fun A B C D E F G I J K=>(((((((((kx3.trans (Kp.new n3 H3 A).kx).set (x:=xS) B (.inl hge.2.2.2.2) (by omega)).trans (Kp.new (n3+1) _ C).kx).trans (Kp.new (n3+1+1) _ D).kx).set (x:=xN) E (.inl hge.2.2.1) (by omega)).trans (Kp.new (n3+1+1+1) _ F).kx).trans (Kp.new (n3+1+1+1+1) _ G).kx).set (x:=xR) I (.inl hge.2.2.2.1) (by omega)).trans (Kp.new (n3+1+1+1+1+1) _ J).kx).set (x:=bb) K (.inl hge.1) (by omega)
  refine WK.retNil ⟨Or.inr rfl,_,rfl,(kF _ _ _ _ _ _ _ _ _ _).keep,post _ _ _ _ _ hqq (hmore _ (hset_at _ _ _) ((hset_ne _ _ _ (Ne.symm hne)).trans ((c9 _ _ _ _ _ _ _ _ _ mp (by omega) (Ne.symm t3) (Ne.symm t1) (Ne.symm t2)).trans hmp3)) ((hset_ne _ _ _ (by omega)).trans ((hset_ne _ _ _ (by omega)).trans ((hset_ne _ _ _ (by omega)).trans ((hset_ne _ _ _ (by omega)).trans ((hset_at _ _ _).trans (by rw[List.map_append];rfl)))))) ((hset_ne _ _ _ (by omega)).trans ((hset_at _ _ _).trans (by rw[List.map_append];rfl))) ((hset_ne _ _ _ (by omega)).trans ((hset_ne _ _ _ (by omega)).trans ((hset_ne _ _ _ (by omega)).trans ((hset_ne _ _ _ (by omega)).trans ((hset_ne _ _ _ (by omega)).trans ((hset_ne _ _ _ (by omega)).trans ((hset_ne _ _ _ (by omega)).trans ((hset_at _ _ _).trans (by rw[List.map_append];rfl))))))))) ((hset_ne _ _ _ (by omega)).trans ((c9 _ _ _ _ _ _ _ _ _ n1 (by omega) (by omega) (by omega) (by omega)).trans hrw3)) fun z hz h1 h2 h3=>(hset_ne _ _ _ h1).trans ((c9 _ _ _ _ _ _ _ _ _ z (by omega) (h3 h0).2.2 (h3 h0).1 (h3 h0).2.1).trans (o3 z h2 hz)))⟩
end Go.Proofs.YtjlgpanihjnaeaaGreatDoor
