/- Q -/
import Derived.Test.YteabgcollokgjaaGreatDoorY33
set_option linter.unusedSimpArgs false
set_option linter.unusedVariables false
set_option maxRecDepth 100000
set_option maxHeartbeats 32000000
open Go.Lib (hid)
open List renaming mem_cons_of_mem → zA,length_append → zB,length_filter_le → zC
namespace Go.Proofs.YteabgcollokgjaaGreatDoor
section
open Go.RowKit Go.MapKept Go.ChangeMaps Go.Shelf Go.Sort
attribute [local go_sem] wext_cell
theorem info195:(Tryz.prog.info? 195).map (fun i=>(i.zero,i.size,i.bytes))=some (some (.agg #[.int .i64 0,.int .u64 0,.int .i64 0]),3,24):=by kernel_rfl
theorem zerosH_snoc (hs:List Hold) (e:Hold):zerosH (hs++[e])=zerosH hs+if e.2=id0 then 1 else 0:=by
 unfold zerosH;rw [List.filter_append,zB];congr 1
 by_cases h:e.2=id0<;>simp [h]
theorem zerosH_le (hs:List Hold):zerosH hs<=hs.length:=zC _ _
theorem own_sl {w:World} {e:TypeId} {size n:Nat} {v:Value} {xs:List Value} (h:w.ownsRow 0 e size v n xs):∃ A c,v= .slice A n c:=by
 rcases h.2 with ⟨hv,h2⟩ | ⟨g,cap,cur,hv,_⟩
 · exact ⟨none,0,by rw [hv,h2]⟩
 exact ⟨some ⟨g,0,none⟩,cap,hv⟩
theorem new_cells3 (w:World) (u0 u1 u2:Value) (t:TypeId):∀ j u,[u0,u1,u2][j]? =some u->(w.alloc (.cells #[u0,u1,u2] t)).cell? ((⟨w.heap.size,0,none⟩:Addr).add j)=some u:=by
 intro j u hu;rw [lit_add,Nat.zero_add,(IsB.new w t #[u0,u1,u2]).cell];simpa using hu
section
variable {b:Nat} {w0 w:World} {l:List Ob}
theorem SW.rowHd {A:Option Addr} {cap:Nat} {hs:List Hold} {t:List Ob} (h:SW b w0 (rowOb 195 3 (.slice A hs.length cap) hs.length (hs.flatMap encH)::t) w) (hn:hs.length<=100000):SW b w0 (hdOb A hs::t) w:=by
 have hh:w.ownsRow 0 195 3 (.slice A hs.length cap) hs.length (hs.flatMap encH):=h.get 0 (o:=rowOb 195 3 (.slice A hs.length cap) hs.length (hs.flatMap encH)) rfl;refine h.asRead (o':=hdOb A hs) ⟨(RowV.of_own hh).1,hn⟩ (fun i hi=>hi) (fun i hi=>?_);have hi:0<hs.length/\A=some ⟨i,0,none⟩:=hi;show (Value.slice A hs.length cap).ownBlock=some i;rw [hi.2];rfl
abbrev bgnL (g4 g2:Nat) (r:R3) (CA:Option Addr) (cc:Nat) (cd:List ID) (HA:Option Addr) (hc:Nat) (hs:List Hold) (l:List Ob):List Ob:=
 cellOb g4 100 #[.slice none 0 0,.slice none 0 0,.slice none 0 0,.slice none 0 0]::cellOb g2 100 #[.slice r.A r.E.length r.c,.slice r.B r.E.length r.k,.slice CA cd.length cc,.slice HA hs.length hc]::l
def rBegP (c:RC) (N:Int) (b:Nat) (w0:World) (l:List Ob) (v:Bool) (e:Ending) (w':World):Prop:=
 match v with
 | true=>e= .returned (.tuple #[c.val,.int .i64 401])/\SW b w0 l w'
 | false=>∃ A hc,e= .returned (.tuple #[.agg #[.slice c.r.A c.r.E.length c.r.c,.slice c.r.B c.r.E.length c.r.k,.slice c.CA c.cd.length c.cc,.slice A (c.hs++[(N,id0)]).length hc],.int .i64 0])/\SW b w0 (hdOb A (c.hs++[(N,id0)])::l) w'
theorem rBegin_S (h:SW b w0 l w) (c:RC) (hm:hdOb c.HA c.hs∈l) (N:Int) (v:Bool) (hv:(decide (N<0)||begH c.hs N||decide (16<=zerosH c.hs))=v) (hl:c.hs.length<=10000):Calls Tryz.prog 114 #[.agg #[.slice c.r.A c.r.E.length c.r.c,.slice c.r.B c.r.E.length c.r.k,.slice c.CA c.cd.length c.cc,.slice c.HA c.hs.length c.hc],.int .i64 N] w (rBegP c N b w0 l v):=by
 obtain ⟨r,CA,cc,cd,HA,hc,hs⟩:=c;simp only at hm hv hl |-; have HV:=hid hv;obtain ⟨Q,HQ⟩:∃ Q,Hid (rBegP ⟨r,CA,cc,cd,HA,hc,hs⟩ N b w0 l v=Q):=⟨_,rfl⟩;rw [HQ.out];have S0:Hid (SW b w0 (bgnL (w.heap.size+1) w.heap.size r CA cc cd HA hc hs l) _):=hid ((h.newCell 100 #[.slice r.A r.E.length r.c,.slice r.B r.E.length r.k,.slice CA cd.length cc,.slice HA hs.length hc]).newCellAt 100 #[.slice none 0 0,.slice none 0 0,.slice none 0 0,.slice none 0 0] (H:=w.heap.size+1) (by simp));have HM:Hid (hdOb HA hs∈bgnL (w.heap.size+1) w.heap.size r CA cc cd HA hc hs l):=zA _ (zA _ hm);have hn:=(h.1.holds _ hm:(hdOb HA hs).holds w).2;have HNN:=hid hn;clear h hm hv hn;go_enter Tryz.func114,Tryz.ntmps114;go_upto_block 0 with fail
 go_cut [6,7] from 25 (fun s6 s7 w'=>s6= .int .i64 (zerosH hs:Int)/\SW b w0 (bgnL (w.heap.size+1) w.heap.size r CA cc cd HA hc hs l) w')
 case first=>
  go_wp2_with fail
  go_loopw [6,7] (fun s6 s7 wr=>∃ k:Nat,k<=hs.length/\s7= .int .i64 (k:Int)/\s6= .int .i64 (zerosH (hs.take k):Int)/\SW b w0 (bgnL (w.heap.size+1) w.heap.size r CA cc cd HA hc hs l) wr) (fun _ s7 _=>hs.length-(intOf s7).toNat)
  case atStart=>exact ⟨0,Nat.zero_le _,rfl,rfl,S0.out⟩
  obtain ⟨k,hk,rfl,rfl,hs1⟩:=hrel;have S1:=hid hs1;clear hs1 S0;have c3:=(S1.out.cell 1 rfl).cell 3;by_cases hlt:k<hs.length
  · obtain ⟨e,he⟩:∃ e,hs.getD k hd0=e:=⟨_,rfl⟩;obtain ⟨g,hA,hgl,_,a1,a2⟩:=hd_at (S1.out.1.holds (hdOb HA hs) HM.out) hlt he;have HZ:Hid (zerosH (hs.take (k+1))=zerosH (hs.take k)+if e.2=id0 then 1 else 0):=by rw [Hid,take_snocD hd0 hlt he,zerosH_snoc]
    have hz:=zerosH_le (hs.take k);rw [List.length_take] at hz;generalize zerosH (hs.take k)=Z at HZ hz |-; have heq:=fun W=>eql31 e.2 (0,0) W;rw [hA] at c3;clear he hA;by_cases hv:e.2=id0
    · rw [if_pos hv] at HZ;have hd:decide (e.2=(0,0))=true:=decide_eq_true hv;rw [hd] at heq;clear hv hd;go_wp2_with fail
      go_roundw
      case rel=>exact ⟨k+1,by omega,by go_num,by rw [HZ.out];go_num,S1.out⟩
      simp [intOf];omega
    rw [if_neg hv] at HZ;have hd:decide (e.2=(0,0))=false:=decide_eq_false hv;rw [hd] at heq;clear hv hd;go_wp2_with fail
    go_roundw
    case rel=>exact ⟨k+1,by omega,by go_num,by rw [HZ.out];rfl,S1.out⟩
    simp [intOf];omega
  obtain rfl:k=hs.length:=by omega
  rw [List.take_length];go_wp2_with fail
  go_meet;exact ⟨rfl,S1.out⟩
 obtain ⟨rfl,s⟩:=hcut;have S1:=hid s;clear s S0;have hz:=zerosH_le hs;obtain ⟨Z,HZ⟩:∃ Z,Hid (zerosH hs=Z):=⟨_,rfl⟩;rw [HZ.out] at hz |-; obtain ⟨B,HB⟩:∃ B,Hid (begH hs N=B):=⟨_,rfl⟩;rw [HB.out,HZ.out] at HV;have HBG:=hid (rBegun_S S1.out ⟨r,CA,cc,cd,HA,hc,hs⟩ HM.out N);simp only at HBG;rw [HB.out] at HBG;clear HB HZ;go_upto_region 7 with fail
 go_cut [35] from 36 (fun s35 w'=>s35= .bool v/\SW b w0 (bgnL (w.heap.size+1) w.heap.size r CA cc cd HA hc hs l) w')
 case first=>
  have c0:=(S1.out.cell 1 rfl).cell 0;have c1:=(S1.out.cell 1 rfl).cell 1;have c2:=(S1.out.cell 1 rfl).cell 2;have c3:=(S1.out.cell 1 rfl).cell 3;by_cases hN:N<0
  · have HVT:Hid (v=true):=by
     rw [Hid, <- HV.out];simp [hN]
    have hd:decide (N<0)=true:=decide_eq_true hN;go_wp2_with fail
    go_meet;exact ⟨by rw [HVT.out],S1.out⟩
  have hd:decide (N<0)=false:=decide_eq_false hN;rw [hd] at HV;clear hN;go_wp2_with (go_at_call 120;(with_reducible refine HBG.out.mono ?_);refine halt_ ?_)
  rintro e w2 ⟨rfl,s2⟩;have S2:=hid s2;clear s2 HBG S1 c0 c1 c2 c3;cases B with
  | true=>
   have HVT:Hid (v=true):=by
    rw [Hid, <- HV.out];rfl
   go_wp2_with fail
   go_meet;exact ⟨by rw [HVT.out],S2.out⟩
  | false=>
   by_cases h16:16<=Z
   · have HVT:Hid (v=true):=by
      rw [Hid, <- HV.out];simp [h16]
     have hd2:decide ((Z:Int)>=16)=true:=decide_eq_true (by omega);clear h16;go_wp2_with fail
     go_meet;exact ⟨by rw [HVT.out],S2.out⟩
   have HVT:Hid (v=false):=by
    rw [Hid, <- HV.out];simp [h16]
   have hd2:decide ((Z:Int)>=16)=false:=decide_eq_false (by omega);clear h16;go_wp2_with fail
   go_meet;exact ⟨by rw [HVT.out],S2.out⟩
 obtain ⟨rfl,s⟩:=hcut;have S2:=hid s;clear s S1 HV HBG;cases v with
 | true=>
  have c0:=(S2.out.cell 1 rfl).cell 0;have c1:=(S2.out.cell 1 rfl).cell 1;have c2:=(S2.out.cell 1 rfl).cell 2;have c3:=(S2.out.cell 1 rfl).cell 3;have z0:=(S2.out.cell 0 rfl).cell 0;have z1:=(S2.out.cell 0 rfl).cell 1;have z2:=(S2.out.cell 0 rfl).cell 2;have z3:=(S2.out.cell 0 rfl).cell 3;have f0:=(S2.out.cell 0 rfl).frozen 0;have f1:=(S2.out.cell 0 rfl).frozen 1;have f2:=(S2.out.cell 0 rfl).frozen 2;have f3:=(S2.out.cell 0 rfl).frozen 3;have S3:=hid ((((S2.out.setAt 0 rfl 0 (.slice r.A r.E.length r.c)).setAt 0 rfl 1 (.slice r.B r.E.length r.k)).setAt 0 rfl 2 (.slice CA cd.length cc)).setAt 0 rfl 3 (.slice HA hs.length hc));have e0:_=some (Value.slice r.A r.E.length r.c):=(S3.out.cell 0 rfl).cell 0;have e1:_=some (Value.slice r.B r.E.length r.k):=(S3.out.cell 0 rfl).cell 1;have e2:_=some (Value.slice CA cd.length cc):=(S3.out.cell 0 rfl).cell 2;have e3:_=some (Value.slice HA hs.length hc):=(S3.out.cell 0 rfl).cell 3;clear S2;go_wp2_with fail
  refine bodyPost_ret (v:=.tuple #[.agg #[.slice r.A r.E.length r.c,.slice r.B r.E.length r.k,.slice CA cd.length cc,.slice HA hs.length hc],.int .i64 401]) ?_ rfl ?_
  · simp [results,Tryz.results114,go_sem,e0,e1,e2,e3]
  rw [<- HQ.out];exact ⟨rfl,S3.out.tail.tail⟩
 | false=>
  have c3:=(S2.out.cell 1 rfl).cell 3;have S3:=hid (S2.out.newRow 195 3);have hsrc:=hd_src (S3.out.1.holds (hdOb HA hs) (zA _ HM.out));obtain ⟨i1,gi,gz0,gz1,gz2⟩:=info_parts info195;clear S2;go_wp2_with (at_builtin;(refine wpList_rowM (t:=98) (e:=195) (size:=3) (bytes:=24) (i:=i1) S3.out 0 rfl (by rfl) (.const (.slice none 0 0)) (.tmp 38) (by rfl) Tryz.underlying98 gi gz0 gz1 gz2 rfl (by omega) (by rfl) HA hs.length hc (hs.flatMap encH) (by rfl) (flat_len encH_len hs) hsrc (encH_all hs) (by unfold maxLen;omega) (by omega) ?_);refine halt_ ?_)
  intro v4 w4 s4;clear hsrc
  have S4:Hid (SW b w0 (rowOb 195 3 v4 hs.length (hs.flatMap encH)::bgnL (w.heap.size+1) w.heap.size r CA cc cd HA hc hs l) w4):=by
   exact s4
  clear s4 S3;obtain ⟨A4,c4,rfl⟩:=own_sl (S4.out.get 0 rfl);go_wp2_with (at_builtin;(refine wpList_rowS (t:=98) (e:=195) (size:=3) (bytes:=24) (i:=i1) (S4.out.alloc _) 0 rfl (by rfl) (.tmp 39) (.tmp 42) (by rfl) Tryz.underlying98 gi gz0 gz1 gz2 rfl (by omega) (by rfl) ⟨w4.heap.size,0,none⟩ 1 (encH (N,id0)) (by rfl) rfl (new_cells3 w4 _ _ _ 195) (encH_one _) (by unfold maxLen;omega) (by omega) ?_);refine halt_ ?_)
  intro v5 w5 s5;obtain ⟨g5,c5,rfl⟩:=own_some (s5.get 0 rfl) (by omega);have e5:hs.length+1=(hs++[(N,id0)]).length:=by simp
  have S5:Hid (SW b w0 (rowOb 195 3 (.slice (some ⟨g5,0,none⟩) (hs++[(N,id0)]).length c5) (hs++[(N,id0)]).length ((hs++[(N,id0)]).flatMap encH)::bgnL (w.heap.size+1) w.heap.size r CA cc cd HA hc hs l) w5):=by
   rw [Hid,List.flatMap_append, <- e5];exact s5
  have HE5:=hid e5;have HH:Hid (hs.length+1<=100000):=by unfold Hid;omega
  clear s5 S4 c3;generalize hs.length+1=M at HE5 HH |-; rw [<- HE5.out] at S5;have c0:=(S5.out.cell 2 rfl).cell 0;have c1:=(S5.out.cell 2 rfl).cell 1;have c2:=(S5.out.cell 2 rfl).cell 2;have c3:=(S5.out.cell 2 rfl).cell 3;have f3:=(S5.out.cell 2 rfl).frozen 3;have S6:Hid (SW b w0 (rowOb 195 3 (.slice (some ⟨g5,0,none⟩) M c5) M ((hs++[(N,id0)]).flatMap encH)::cellOb (w.heap.size+1) 100 #[.slice none 0 0,.slice none 0 0,.slice none 0 0,.slice none 0 0]::cellOb w.heap.size 100 #[.slice r.A r.E.length r.c,.slice r.B r.E.length r.k,.slice CA cd.length cc,.slice (some ⟨g5,0,none⟩) M c5]::l) _):=hid (S5.out.setAt 2 rfl 3 (.slice (some ⟨g5,0,none⟩) M c5));go_upto_region 10 with fail
  clear c0 c1 c2 c3 f3 S5;generalize w5.setCell ⟨w.heap.size,3,none⟩ (.slice (some ⟨g5,0,none⟩) M c5)=W at S6 |-; have c0:=(S6.out.cell 2 rfl).cell 0;have c1:=(S6.out.cell 2 rfl).cell 1;have c2:=(S6.out.cell 2 rfl).cell 2;have c3:=(S6.out.cell 2 rfl).cell 3;have z0:=(S6.out.cell 1 rfl).cell 0;have z1:=(S6.out.cell 1 rfl).cell 1;have z2:=(S6.out.cell 1 rfl).cell 2;have z3:=(S6.out.cell 1 rfl).cell 3;have f0:=(S6.out.cell 1 rfl).frozen 0;have f1:=(S6.out.cell 1 rfl).frozen 1;have f2:=(S6.out.cell 1 rfl).frozen 2;have f3:=(S6.out.cell 1 rfl).frozen 3;have S7:=hid ((((S6.out.setAt 1 rfl 0 (.slice r.A r.E.length r.c)).setAt 1 rfl 1 (.slice r.B r.E.length r.k)).setAt 1 rfl 2 (.slice CA cd.length cc)).setAt 1 rfl 3 (.slice (some ⟨g5,0,none⟩) M c5));have e0:_=some (Value.slice r.A r.E.length r.c):=(S7.out.cell 1 rfl).cell 0;have e1:_=some (Value.slice r.B r.E.length r.k):=(S7.out.cell 1 rfl).cell 1;have e2:_=some (Value.slice CA cd.length cc):=(S7.out.cell 1 rfl).cell 2;have e3:_=some (Value.slice (some ⟨g5,0,none⟩) M c5):=(S7.out.cell 1 rfl).cell 3;have S8:Hid (SW b w0 (rowOb 195 3 (.slice (some ⟨g5,0,none⟩) M c5) M ((hs++[(N,id0)]).flatMap encH)::l) _):=hid (SW.few (pre:=[_,_,_]) S7.out [0] (n:=3) rfl (by decide) (by decide));clear S6 S7;go_wp2_with fail
  refine bodyPost_ret (v:=.tuple #[.agg #[.slice r.A r.E.length r.c,.slice r.B r.E.length r.k,.slice CA cd.length cc,.slice (some ⟨g5,0,none⟩) M c5],.int .i64 0]) ?_ rfl ?_
  · simp [results,Tryz.results114,go_sem,e0,e1,e2,e3]
  rw [<- HQ.out];have hM:=HE5.out;have S9:=S8.out;have hh:=HH.out;subst hM;exact ⟨some ⟨g5,0,none⟩,c5,rfl,SW.rowHd S9 hh⟩
end
end
section
open Go.RowKit Go.MapKept Go.ChangeMaps Go.Shelf Go.Sort
attribute [local go_sem] wext_cell
def endH (hs:List Hold) (N:Int):List Hold:=hs.filter fun h=> !(h.1==N)
theorem endH_snoc (hs:List Hold) (N:Int) (e:Hold):endH (hs++[e]) N=endH hs N++if e.1=N then [] else [e]:=by
 unfold endH;rw [List.filter_append];congr 1
 by_cases h:e.1=N<;>simp [h]
theorem endH_le (hs:List Hold) (N:Int):(endH hs N).length<=hs.length:=zC _ _
section
variable {b:Nat} {w0 w:World} {l:List Ob}
def rEndP (c:RC) (N:Int) (b:Nat) (w0:World) (l:List Ob) (v:Bool) (e:Ending) (w':World):Prop:=
 match v with
 | false=>e= .returned (.tuple #[c.val,.int .i64 401])/\SW b w0 l w'
 | true=>∃ A hc,e= .returned (.tuple #[.agg #[.slice c.r.A c.r.E.length c.r.c,.slice c.r.B c.r.E.length c.r.k,.slice c.CA c.cd.length c.cc,.slice A (endH c.hs N).length hc],.int .i64 0])/\SW b w0 (hdOb A (endH c.hs N)::l) w'
theorem rEnd_S (h:SW b w0 l w) (c:RC) (hm:hdOb c.HA c.hs∈l) (N:Int) (v:Bool) (hv:begH c.hs N=v) (hl:c.hs.length<=10000):Calls Tryz.prog 68 #[.agg #[.slice c.r.A c.r.E.length c.r.c,.slice c.r.B c.r.E.length c.r.k,.slice c.CA c.cd.length c.cc,.slice c.HA c.hs.length c.hc],.int .i64 N] w (rEndP c N b w0 l v):=by
 obtain ⟨r,CA,cc,cd,HA,hc,hs⟩:=c;simp only at hm hv hl |-; obtain ⟨Q,HQ⟩:∃ Q,Hid (rEndP ⟨r,CA,cc,cd,HA,hc,hs⟩ N b w0 l v=Q):=⟨_,rfl⟩;rw [HQ.out];have S0:Hid (SW b w0 (bgnL (w.heap.size+1) w.heap.size r CA cc cd HA hc hs l) _):=hid ((h.newCell 100 #[.slice r.A r.E.length r.c,.slice r.B r.E.length r.k,.slice CA cd.length cc,.slice HA hs.length hc]).newCellAt 100 #[.slice none 0 0,.slice none 0 0,.slice none 0 0,.slice none 0 0] (H:=w.heap.size+1) (by simp));have HM:Hid (hdOb HA hs∈bgnL (w.heap.size+1) w.heap.size r CA cc cd HA hc hs l):=zA _ (zA _ hm);have HBG:=hid (rBegun_S S0.out ⟨r,CA,cc,cd,HA,hc,hs⟩ HM.out N);simp only at HBG;rw [hv] at HBG;clear h hm hv;go_enter Tryz.func68,Tryz.ntmps68;go_upto_region 1 with fail
 generalize (w.alloc _).alloc _=W1 at S0 HBG |-; have c0:=(S0.out.cell 1 rfl).cell 0;have c1:=(S0.out.cell 1 rfl).cell 1;have c2:=(S0.out.cell 1 rfl).cell 2;have c3:=(S0.out.cell 1 rfl).cell 3;go_wp2_with (go_at_call 120;(with_reducible refine HBG.out.mono ?_);refine halt_ ?_)
 rintro e w2 ⟨rfl,s2⟩;have S1:=hid s2;clear s2 HBG S0 c0 c1 c2 c3;cases v with
 | false=>
  have c0:=(S1.out.cell 1 rfl).cell 0;have c1:=(S1.out.cell 1 rfl).cell 1;have c2:=(S1.out.cell 1 rfl).cell 2;have c3:=(S1.out.cell 1 rfl).cell 3;have z0:=(S1.out.cell 0 rfl).cell 0;have z1:=(S1.out.cell 0 rfl).cell 1;have z2:=(S1.out.cell 0 rfl).cell 2;have z3:=(S1.out.cell 0 rfl).cell 3;have f0:=(S1.out.cell 0 rfl).frozen 0;have f1:=(S1.out.cell 0 rfl).frozen 1;have f2:=(S1.out.cell 0 rfl).frozen 2;have f3:=(S1.out.cell 0 rfl).frozen 3;have S2:=hid (((((S1.out.setAt 0 rfl 0 (.slice r.A r.E.length r.c)).setAt 0 rfl 1 (.slice r.B r.E.length r.k)).setAt 0 rfl 2 (.slice CA cd.length cc)).setAt 0 rfl 3 (.slice HA hs.length hc)));have e0:_=some (Value.slice r.A r.E.length r.c):=(S2.out.cell 0 rfl).cell 0;have e1:_=some (Value.slice r.B r.E.length r.k):=(S2.out.cell 0 rfl).cell 1;have e2:_=some (Value.slice CA cd.length cc):=(S2.out.cell 0 rfl).cell 2;have e3:_=some (Value.slice HA hs.length hc):=(S2.out.cell 0 rfl).cell 3;clear S1;go_wp2_with fail
  refine bodyPost_ret (v:=.tuple #[.agg #[.slice r.A r.E.length r.c,.slice r.B r.E.length r.k,.slice CA cd.length cc,.slice HA hs.length hc],.int .i64 401]) ?_ rfl ?_
  · simp [results,Tryz.results68,go_sem,e0,e1,e2,e3]
  rw [<- HQ.out];exact ⟨rfl,S2.out.tail.tail⟩
 | true=>
  go_wp2_with fail
  go_loopw [6,7] (fun s6 s7 wr=>∃ (k:Nat) (A:Option Addr) (cap:Nat),k<=hs.length/\s7= .int .i64 (k:Int)/\s6= .slice A (endH (hs.take k) N).length cap/\SW b w0 (rowOb 195 3 (.slice A (endH (hs.take k) N).length cap) (endH (hs.take k) N).length ((endH (hs.take k) N).flatMap encH)::bgnL (w.heap.size+1) w.heap.size r CA cc cd HA hc hs l) wr) (fun _ s7 _=>hs.length-(intOf s7).toNat)
  case atStart=>exact ⟨0,none,0,Nat.zero_le _,rfl,rfl,S1.out.newRow 195 3⟩
  obtain ⟨k,A,cap,hk,rfl,rfl,hs1⟩:=hrel;have S2:=hid hs1;clear hs1 S1;have c0:=(S2.out.cell 2 rfl).cell 0;have c1:=(S2.out.cell 2 rfl).cell 1;have c2:=(S2.out.cell 2 rfl).cell 2;have c3:=(S2.out.cell 2 rfl).cell 3;by_cases hlt:k<hs.length
  · obtain ⟨e,he⟩:∃ e,hs.getD k hd0=e:=⟨_,rfl⟩;obtain ⟨g,hA,hgl,a0,a1,a2⟩:=hd_at (S2.out.1.holds (hdOb HA hs) (zA _ HM.out)) hlt he;have HTS:Hid (endH (hs.take (k+1)) N=endH (hs.take k) N++if e.1=N then [] else [e]):=by rw [Hid,take_snocD hd0 hlt he,endH_snoc]
    have hfl:=endH_le (hs.take k) N;rw [List.length_take] at hfl;generalize endH (hs.take k) N=F at S2 HTS hfl |-; rw [hA] at c3;clear he hA;by_cases hv:e.1=N
    · have hvb:(e.1 !=N)=false:=by simp [hv]
      rw [if_pos hv,List.append_nil] at HTS;clear hv;go_wp2_with fail
      go_roundw
      case rel=>
       refine ⟨k+1,A,cap,by omega,by go_num,?_,?_⟩
       · rw [HTS.out]
       rw [HTS.out];exact S2.out
      simp [intOf];omega
    have hvb:(e.1 !=N)=true:=by simp [hv]
    rw [if_neg hv] at HTS;clear hv;obtain ⟨i1,gi,gz0,gz1,gz2⟩:=info_parts info195;go_wp2_with (at_builtin;(refine wpList_rowS (t:=98) (e:=195) (size:=3) (bytes:=24) (i:=i1) (S2.out.alloc _) 0 rfl (by rfl) (.tmp 28) (.tmp 34) (by rfl) Tryz.underlying98 gi gz0 gz1 gz2 rfl (by omega) (by rfl) ⟨wr.heap.size,0,none⟩ 1 (encH e) (by rfl) rfl (new_cells3 wr _ _ _ 195) (encH_one e) (by unfold maxLen;omega) (by omega) ?_);refine halt_ ?_)
    intro v4 w4 s4;obtain ⟨g4,c4,rfl⟩:=own_some (s4.get 0 rfl) (by omega)
    have S4:Hid (SW b w0 (rowOb 195 3 (.slice (some ⟨g4,0,none⟩) (F++[e]).length c4) (F++[e]).length ((F++[e]).flatMap encH)::bgnL (w.heap.size+1) w.heap.size r CA cc cd HA hc hs l) w4):=by
     rw [Hid,List.flatMap_append,zB];exact s4
    clear s4 S2 c0 c1 c2 c3 a0 a1 a2;go_wp2_with fail
    go_roundw
    case rel=>
     refine ⟨k+1,some ⟨g4,0,none⟩,c4,by omega,by go_num,?_,?_⟩
     · rw [HTS.out,zB];rfl
     rw [HTS.out];exact S4.out
    simp [intOf];omega
  obtain rfl:k=hs.length:=by omega
  have hle:(endH hs N).length<=100000:=by have:=endH_le hs N;omega
  rw [List.take_length] at S2 |-; have HLE:=hid hle;clear hle;obtain ⟨F,HF⟩:∃ F,Hid (endH hs N=F):=⟨_,rfl⟩;rw [HF.out] at S2 HLE |-; have f3:=(S2.out.cell 2 rfl).frozen 3;have S3:Hid (SW b w0 (rowOb 195 3 (.slice A F.length cap) F.length (F.flatMap encH)::cellOb (w.heap.size+1) 100 #[.slice none 0 0,.slice none 0 0,.slice none 0 0,.slice none 0 0]::cellOb w.heap.size 100 #[.slice r.A r.E.length r.c,.slice r.B r.E.length r.k,.slice CA cd.length cc,.slice A F.length cap]::l) _):=hid (S2.out.setAt 2 rfl 3 (.slice A F.length cap));go_upto_region 10 with fail
  clear c0 c1 c2 c3 f3 S2;generalize wr.setCell ⟨w.heap.size,3,none⟩ (.slice A F.length cap)=W at S3 |-; have c0:=(S3.out.cell 2 rfl).cell 0;have c1:=(S3.out.cell 2 rfl).cell 1;have c2:=(S3.out.cell 2 rfl).cell 2;have c3:=(S3.out.cell 2 rfl).cell 3;have z0:=(S3.out.cell 1 rfl).cell 0;have z1:=(S3.out.cell 1 rfl).cell 1;have z2:=(S3.out.cell 1 rfl).cell 2;have z3:=(S3.out.cell 1 rfl).cell 3;have f0:=(S3.out.cell 1 rfl).frozen 0;have f1:=(S3.out.cell 1 rfl).frozen 1;have f2:=(S3.out.cell 1 rfl).frozen 2;have f3:=(S3.out.cell 1 rfl).frozen 3;have S4:=hid (((((S3.out.setAt 1 rfl 0 (.slice r.A r.E.length r.c)).setAt 1 rfl 1 (.slice r.B r.E.length r.k)).setAt 1 rfl 2 (.slice CA cd.length cc)).setAt 1 rfl 3 (.slice A F.length cap)));have e0:_=some (Value.slice r.A r.E.length r.c):=(S4.out.cell 1 rfl).cell 0;have e1:_=some (Value.slice r.B r.E.length r.k):=(S4.out.cell 1 rfl).cell 1;have e2:_=some (Value.slice CA cd.length cc):=(S4.out.cell 1 rfl).cell 2;have e3:_=some (Value.slice A F.length cap):=(S4.out.cell 1 rfl).cell 3;have S5:Hid (SW b w0 (rowOb 195 3 (.slice A F.length cap) F.length (F.flatMap encH)::l) _):=hid (SW.few (pre:=[_,_,_]) S4.out [0] (n:=3) rfl (by decide) (by decide));clear S4;clear S3;go_wp2_with fail
  refine bodyPost_ret (v:=.tuple #[.agg #[.slice r.A r.E.length r.c,.slice r.B r.E.length r.k,.slice CA cd.length cc,.slice A F.length cap],.int .i64 0]) ?_ rfl ?_
  · simp [results,Tryz.results68,go_sem,e0,e1,e2,e3]
  rw [<- HQ.out];have hM:=HF.out;have S9:=S5.out;have hh:=HLE.out;subst hM;exact ⟨A,cap,rfl,SW.rowHd S9 hh⟩
end
end
end Go.Proofs.YteabgcollokgjaaGreatDoor
