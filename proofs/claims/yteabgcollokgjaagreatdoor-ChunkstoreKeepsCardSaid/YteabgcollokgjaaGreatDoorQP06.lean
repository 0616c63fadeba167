/- Q -/
import Derived.Test.YteabgcollokgjaaGreatDoorQP05
import Derived.Outline
import Derived.Laws.EntriesVeiled
import Derived.Laws.IdiomStrings
import Derived.Lib.SlBytesConst
import Derived.Lib.BufferRead
set_option linter.unusedSimpArgs false
set_option linter.unusedVariables false
set_option maxRecDepth 100000
set_option maxHeartbeats 32000000
open Go.Lib (hid)
open List renaming mem_of_getElem? → zA,getElem?_eq_getElem → zB
open Nat renaming lt_of_lt_of_le → zC,le_trans → zD
namespace Go.Proofs.YteabgcollokgjaaGreatDoor
section
open Go.RowKit Go.MapKept Go.ChangeMaps
theorem RB.take {w:World} {A:Option Addr} {n c:Nat} {bs:List UInt8} (h:RB w ⟨A,n,c⟩ bs) {t:Nat} (ht:t<=n):RB w ⟨A,t,c⟩ (bs.take t):=by
 obtain ⟨h1,h2,h3,h4⟩:=h;simp only at h1 h2 h3 h4;refine ⟨by simp only [List.length_take];omega,by simp only;omega,h3,fun ad e=>?_⟩;obtain ⟨g,cur,e1,e2,e3,e4⟩:=h4 ad e;refine ⟨g,cur,e1,e2,e3,fun j u hu=>e4 j u ?_⟩;rw [List.map_take] at hu;have hj:=(List.getElem?_eq_some_iff.1 hu).1;rw [List.length_take] at hj;rw [List.getElem?_take_of_lt (by omega)] at hu;exact hu
theorem dev_renew {w w0 w1 w2:World} {p lb:Nat} {r:Rp} {s:St} {f:FF} (H:DV w p r s) (hb0:Below w.heap.size w w0) (hl:Left w0.heap.size r.EK w1 lb f) (hb:Below w0.heap.size w0 w1) (hf:FM w2 w1.heap.size (Classical.choose hl)) (hb2:Below w1.heap.size w1 w2) (hsm:Small f) {M:Nat} (hM:w1.heap.size=M):
 Goes p r ⟨f,[],s.dn,s.f⟩ (.tuple #[]) w (.returned (.tuple #[])) (((w2.setCell ⟨p,0,none⟩ (.map (some lb))).setCell ⟨p,1,none⟩ (.map (some M))).setCell ⟨p,2,none⟩ (.slice none 0 0)):=by
 subst hM;obtain ⟨h1,h2,h3,h4,h5⟩:=Classical.choose_spec hl;have D2:=((H.on hb0).on hb).on hb2;have C2:=D2.dev.cells;have hcc:=((C2.set_ 0 (.map (some lb))).set_ 1 (.map (some w1.heap.size))).set_ 2 (.slice none 0 0)
 have hg2:w2.grownBy (((w2.setCell ⟨p,0,none⟩ (.map (some lb))).setCell ⟨p,1,none⟩ (.map (some w1.heap.size))).setCell ⟨p,2,none⟩ (.slice none 0 0)) (some p):=
  g_trans (g_trans (g_set (p:=⟨p,0,none⟩) (g_refl _ _) (.inl rfl) _) (g_set (p:=⟨p,1,none⟩) (g_refl _ _) (.inl rfl) _)) (g_set (p:=⟨p,2,none⟩) (g_refl _ _) (.inl rfl) _)
 have fm:∀ {b:Nat} {E:Files},FM w2 b E->FM (((w2.setCell ⟨p,0,none⟩ (.map (some lb))).setCell ⟨p,1,none⟩ (.map (some w1.heap.size))).setCell ⟨p,2,none⟩ (.slice none 0 0)) b E:=fun hh=>
  ((hh.setp (i:=0) C2 (by decide) (.map (some lb))).setp (i:=1) (C2.set_ 0 (.map (some lb))) (by decide) (.map (some w1.heap.size))).setp (i:=2) ((C2.set_ 0 (.map (some lb))).set_ 1 (.map (some w1.heap.size))) (by decide) (.slice none 0 0)
 have s0:=hb0.size;have s1:=hb.size;refine ⟨rfl,⟨lb,w1.heap.size,Classical.choose hl,Classical.choose hl,none,0,[]⟩,⟨dev_mk hcc (fm (h1.on hb2)) (fm hf) (fun e=>?_) h1.safe h4 h4,Ok.none hsm H.ok.f0 H.ok.f1⟩,⟨?_,?_,fun q hq=> .inl ?_,fun d' hd'=> .inr ?_⟩⟩
 · have:=h1.1.lt;omega
 · have hb02:Below w.heap.size w w2:=(hb0.trans (hb.mono s0)).trans (hb2.mono (by omega));exact Ch.ones hb02 hg2 (.inl rfl)
 · rintro i (rfl | rfl | rfl | e)
   · exact .inl (.inl rfl)
   · exact .inr (by have:=h2;omega)
   · exact .inr (by have:=h2;show w.heap.size<=w1.heap.size;omega)
   simp [Value.ownBlock] at e
 · have:=h3 q hq;omega
 have key:∀ e∈Classical.choose hl,From w.heap.size r e.2.1:=fun e he=>by
  cases hg:blk e.2.1 with
  | none=>exact .inl (fun g h=>by rw [hg] at h;cases h)
  | some g=>
   rcases h5 e he g hg with k1 | ⟨c,hc,k1,k2⟩
   · exact .inl (fun g' h=>by rw [hg] at h;injection h with h;omega)
   exact .inr (.inl ⟨c.2.1,.inl ⟨c,hc,rfl⟩,by rw [k1,hg],k2⟩)
 rcases hd' with ⟨e,he,rfl⟩ | ⟨e,he,rfl⟩ | ⟨y,hy,_⟩
 · exact key e he
 · exact key e he
 cases hy
theorem decide_any (p:Nat) (r:Rp) (s:St) (keep torn:Int) (w:World) (h:DV w p r s) (hL:s.ops.length<=1000000) (ht:torn<=9223372036854775807):Calls Tryz.prog 105 #[.pointer (some ⟨p,0,none⟩),.agg #[.int .i64 keep,.int .i64 torn]] w (Goes p r (decideS s keep torn) (.tuple #[]) w):=by
 have H:=hid h;have hplt:=h.dev.cells.lt;have k0:w.cell? ⟨p,0,none⟩=some (.map (some r.kb)):=(h.dev.cells.cell 0).trans rfl;have k2:w.cell? ⟨p,2,none⟩=some (.slice r.A r.L.length r.c):=(h.dev.cells.cell 2).trans rfl;have HO:Hid (r.L.length=s.ops.length):=by rw [Hid, <- h.dev.sO,List.length_map]
 have hL2:r.L.length<=1000000:=by rw [HO.out];exact hL
 clear h hL;by_cases hz:r.L.length=0
 · have Hz:Hid (s.ops=[]):=List.eq_nil_of_length_eq_zero (by rw [<- HO.out];exact hz);rw [hz] at k2;clear hz;go_enter Tryz.func105,Tryz.ntmps105;go_wp2_with fail
   go_end0
   have e:decideS s keep torn=s:=by
    rw [decideS,loss_none _ _ _ Hz.out, <- Hz.out]
   rw [Goes,e];exact ⟨rfl,r,H.out.on (bel1 _ _),Step.same (bel1 _ _)⟩
 have hzb:((r.L.length:Int)==0)=false:=by rw [beq_eq_false_iff_ne];omega
 have HD:Hid (DV (w.alloc (.cells #[.int .i64 keep,.int .i64 torn] 81)) p r s):=H.out.on (bel1 _ _)
 have hEK:r.EK.length<=256:=by
  obtain ⟨_,c,hc,hc2⟩:=H.out.ok.kept;have:=hc2.uniq (Cnt.files H.out.dev.kept H.out.dev.sK);omega
 have HX:∃ g,r.A=some ⟨g,0,none⟩:=by
  obtain ⟨g,hg,_⟩:=row_cell H.out.dev.pend (k:=0) (x:=r.L[0]'(by omega)) (zB (by omega));exact ⟨g,hg⟩
 obtain ⟨kb,nb,EK,EN,A,c,L⟩:=r;obtain ⟨g,hg⟩:=HX;have hg':A=some ⟨g,0,none⟩:=hg;subst hg';simp only at k0 k2 HO hL2 hz hzb hEK;clear hg;go_enter Tryz.func105,Tryz.ntmps105;go_wp2_with fail
 refine (copied_any kb EK _ HD.out.dev.kept (by omega) (fun e he=>?_)).mono ?_
 · have:=H.out.ok.kept.len e.1;rw [<- H.out.dev.sK,asc_plain,asc_mem H.out.dev.kept.1.nodup he] at this;simp only [Option.map_some,Option.getD_some] at this;omega
 intro e w1 hcp;obtain ⟨lb,rfl,hl1,hb1⟩:=Left.copied HD.out.dev.kept HD.out.dev.sK hcp;have L1:=hid hl1;have B1:=hid hb1;have D1:Hid (DV w1 p _ s):=HD.out.on hb1;have k2':w1.cell? ⟨p,2,none⟩=some (.slice (some ⟨g,0,none⟩) L.length c):=(D1.out.dev.cells.cell 2).trans rfl;have hs1:=hb1.size;simp only [World.size_alloc] at hs1;clear hcp hl1 hb1 k0 k2;go_wp2_with fail
 go_loopw [23] (fun i wr=>∃ k:Nat,k<=L.length/\i= .int .i64 k/\Hid (k=0∨(k:Int)<=keep)/\Left (w.alloc (.cells #[.int .i64 keep,.int .i64 torn] 81)).heap.size EK wr lb (foldK s k)/\Below (w.alloc (.cells #[.int .i64 keep,.int .i64 torn] 81)).heap.size (w.alloc (.cells #[.int .i64 keep,.int .i64 torn] 81)) wr) (fun i _=>L.length-(intOf i).toNat)
 case atStart=>exact ⟨0,by omega,rfl,.inl rfl,L1.out,B1.out⟩
 obtain ⟨k,hk,rfl,HK,hl2,hb2⟩:=hrel;have L2:=hid hl2;have B2:=hid hb2;have D2:Hid (DV wr p _ s):=HD.out.on hb2;have hs2:=hb2.size;simp only [World.size_alloc] at hs2;have hs2':w.heap.size<wr.heap.size:=by omega
 have q0:wr.cell? ⟨w.heap.size,0,none⟩=some (.int .i64 keep):=(hb2.cell (p:=⟨w.heap.size,0,none⟩) (by simp)).trans (new_cell _ _ _ _ rfl 0);have q1:wr.cell? ⟨w.heap.size,1,none⟩=some (.int .i64 torn):=(hb2.cell (p:=⟨w.heap.size,1,none⟩) (by simp)).trans (new_cell _ _ _ _ rfl 1);clear hl2 hb2 k2' hs1;by_cases hlt:k<L.length
 · obtain ⟨⟨⟨kd,nm,to,bs,tears⟩,⟨dA,dl,dc⟩⟩,hx⟩:∃ x,L[k]? =some x:=⟨_,zB hlt⟩;have Hx:=hid hx
   have HOp:Hid (s.ops[k]? =some ⟨kd,nm,to,bs,tears⟩):=by
    rw [Hid, <- H.out.dev.sO,List.getElem?_map,hx];rfl
   have HRB:Hid (RB wr ⟨dA,dl,dc⟩ bs):=(D2.out.dev.ops _ (zA hx)).1;have HN:Hid (okS nm/\okS to/\bs.length<=4194304):=H.out.ok.ops _ (zA HOp.out);have hbl:bs.length<=4194304:=HN.out.2.2;have HLen:Hid (∀ n:ByteArray,((foldK s k n).getD []).length<=4194304):=fun n=>(H.out.ok.pre k).len n;have hdl:dl<=4194304:=by have:=HRB.out.1;simp only at this;omega
   have hdc:dl<=dc:=HRB.out.2.1;obtain ⟨g',eg,hglt,hc⟩:=row_cell D2.out.dev.pend hx;obtain rfl:g=g':=by injection eg with eg;injection eg
   have c0:wr.cell? ⟨g,k*5,none⟩=some (vFn kd):=hc 0 (by omega);have c1:wr.cell? ⟨g,k*5+1,none⟩=some (.string nm):=hc 1 (by omega);have c2:wr.cell? ⟨g,k*5+2,none⟩=some (.string to):=hc 2 (by omega);have c3:wr.cell? ⟨g,k*5+3,none⟩=some (.slice dA dl dc):=hc 3 (by omega);have c4:wr.cell? ⟨g,k*5+4,none⟩=some (.bool tears):=hc 4 (by omega);clear hc eg hx;by_cases htorn:(k:Int)=keep/\tears=true/\0<=torn
   · obtain ⟨hkk,rfl,ht0⟩:=htorn;have hq:((k:Int)==keep)=true:=by simpa using hkk
     have Hkk:=hid hkk;obtain ⟨t,rfl⟩:∃ t:Nat,torn=(t:Int):=⟨torn.toNat,by omega⟩;clear hkk;by_cases htl:t<=dl
     · have hmin:min (t:Int) (dl:Int)=(t:Int):=by omega
       have hlt3:(t:Int)<=dl:=by omega
       have hlt4:¬ ((dl:Int)<t):=by omega
       have RT:Hid (RB wr ⟨dA,t,dc⟩ (bs.take t)):=HRB.out.take htl;have L3:Hid (Left (w.alloc (.cells #[.int .i64 keep,.int .i64 (t:Int)] 81)).heap.size EK (wr.alloc (.cells #[vFn kd,.string nm,.string to,.slice dA t dc,.bool true] 239)) lb (foldK s k)):=L2.out.on (bel1 _ _);have R3:Hid (RB (wr.alloc (.cells #[vFn kd,.string nm,.string to,.slice dA t dc,.bool true] 239)) ⟨dA,t,dc⟩ (bs.take t)):=RT.out.on (bel1 _ _);have hcf:=call_kd kd;go_wp2_with fail
       clear hcf;refine (L3.out.op (by simp;omega) (vFn kd) ⟨kd,nm,to,bs.take t,true⟩ ⟨dA,t,dc⟩ HN.out.1 HN.out.2.1 R3.out (by have:=HLen.out nm;have:(bs.take t).length<=4194304:=(by rw [List.length_take];omega);simp only;omega)).mono ?_;rintro e w5 ⟨rfl,hl5,hb5⟩;have L5:=hid hl5;have B5:Hid (Below (w.alloc (.cells #[.int .i64 keep,.int .i64 (t:Int)] 81)).heap.size (w.alloc (.cells #[.int .i64 keep,.int .i64 (t:Int)] 81)) w5):=(B2.out.trans ((bel1 wr _).mono B2.out.size)).trans hb5;have q0':w5.cell? ⟨w.heap.size,0,none⟩=some (.int .i64 keep):=(B5.out.cell (p:=⟨w.heap.size,0,none⟩) (by simp)).trans (new_cell _ _ _ _ rfl 0);clear hl5 hb5 q0 q1 c0 c1 c2 c3 c4
       have HF:Hid (lossF s keep (t:Int)=applyF (foldK s k) ⟨kd,nm,to,bs.take t,true⟩):=by
        rw [Hid,loss_torn s keep t k HOp.out Hkk.out rfl (by omega)];rfl
       have FF:=Classical.choose_spec L5.out;have F5:Hid (FM w5 lb (Classical.choose L5.out)):=FF.1;clear FF;go_wp2_with fail
       refine (mapsClone_any lb (Classical.choose L5.out) _ F5.out).mono ?_;rintro e w6 ⟨rfl,hf6,hb6,hz6⟩;have F6:=hid hf6;have B6:=hid hb6;have C6:Hid (IsB w6 p 136 (vD (.map (some kb)) (.map (some nb)) (.slice (some ⟨g,0,none⟩) L.length c) s.dn s.f)):=((HD.out.on B5.out).on hb6).dev.cells;have y0:w6.cell? ⟨p,0,none⟩=some (.map (some kb)):=(C6.out.cell 0).trans rfl;have y1:w6.cell? ⟨p,1,none⟩=some (.map (some nb)):=(C6.out.cell 1).trans rfl;have y2:w6.cell? ⟨p,2,none⟩=some (.slice (some ⟨g,0,none⟩) L.length c):=(C6.out.cell 2).trans rfl;have z0:w6.frozen? ⟨p,0,none⟩=false:=C6.out.frozen 0;have z1:w6.frozen? ⟨p,1,none⟩=false:=C6.out.frozen 1;have z2:w6.frozen? ⟨p,2,none⟩=false:=C6.out.frozen 2;clear hf6 hb6 hz6;go_wp2_with fail
       go_end0;rw [decideS];have hsm:=H.out.ok.loss keep (t:Int);rw [HF.out] at hsm |-; exact dev_renew H.out (bel1 _ _) L5.out B5.out F6.out B6.out hsm (by first | rfl | simp)
     have hlt3:(dl:Int)<(t:Int):=by omega
     have hmin:min (t:Int) (dl:Int)=(dl:Int):=by omega
     have L3:Hid (Left (w.alloc (.cells #[.int .i64 keep,.int .i64 (t:Int)] 81)).heap.size EK (wr.alloc (.cells #[vFn kd,.string nm,.string to,.slice dA dl dc,.bool true] 239)) lb (foldK s k)):=L2.out.on (bel1 _ _);have R3:Hid (RB (wr.alloc (.cells #[vFn kd,.string nm,.string to,.slice dA dl dc,.bool true] 239)) ⟨dA,dl,dc⟩ (bs)):=HRB.out.on (bel1 _ _);have hcf:=call_kd kd;go_wp2_with fail
     clear hcf;refine (L3.out.op (by simp;omega) (vFn kd) ⟨kd,nm,to,bs,true⟩ ⟨dA,dl,dc⟩ HN.out.1 HN.out.2.1 R3.out (by have:=HLen.out nm;have:(bs).length<=4194304:=hbl;simp only;omega)).mono ?_;rintro e w5 ⟨rfl,hl5,hb5⟩;have L5:=hid hl5;have B5:Hid (Below (w.alloc (.cells #[.int .i64 keep,.int .i64 (t:Int)] 81)).heap.size (w.alloc (.cells #[.int .i64 keep,.int .i64 (t:Int)] 81)) w5):=(B2.out.trans ((bel1 wr _).mono B2.out.size)).trans hb5;have q0':w5.cell? ⟨w.heap.size,0,none⟩=some (.int .i64 keep):=(B5.out.cell (p:=⟨w.heap.size,0,none⟩) (by simp)).trans (new_cell _ _ _ _ rfl 0);clear hl5 hb5 q0 q1 c0 c1 c2 c3 c4
     have HF:Hid (lossF s keep (t:Int)=applyF (foldK s k) ⟨kd,nm,to,bs,true⟩):=by
      rw [Hid,loss_torn s keep t k HOp.out Hkk.out rfl (by omega)];have:bs.take t=bs:=List.take_of_length_le (by have:=HRB.out.1;simp only at this;omega);simp [POp.cutTo,this]
     have FF:=Classical.choose_spec L5.out;have F5:Hid (FM w5 lb (Classical.choose L5.out)):=FF.1;clear FF;go_wp2_with fail
     refine (mapsClone_any lb (Classical.choose L5.out) _ F5.out).mono ?_;rintro e w6 ⟨rfl,hf6,hb6,hz6⟩;have F6:=hid hf6;have B6:=hid hb6;have C6:Hid (IsB w6 p 136 (vD (.map (some kb)) (.map (some nb)) (.slice (some ⟨g,0,none⟩) L.length c) s.dn s.f)):=((HD.out.on B5.out).on hb6).dev.cells;have y0:w6.cell? ⟨p,0,none⟩=some (.map (some kb)):=(C6.out.cell 0).trans rfl;have y1:w6.cell? ⟨p,1,none⟩=some (.map (some nb)):=(C6.out.cell 1).trans rfl;have y2:w6.cell? ⟨p,2,none⟩=some (.slice (some ⟨g,0,none⟩) L.length c):=(C6.out.cell 2).trans rfl;have z0:w6.frozen? ⟨p,0,none⟩=false:=C6.out.frozen 0;have z1:w6.frozen? ⟨p,1,none⟩=false:=C6.out.frozen 1;have z2:w6.frozen? ⟨p,2,none⟩=false:=C6.out.frozen 2;clear hf6 hb6 hz6;go_wp2_with fail
     go_end0;rw [decideS];have hsm:=H.out.ok.loss keep (t:Int);rw [HF.out] at hsm |-; exact dev_renew H.out (bel1 _ _) L5.out B5.out F6.out B6.out hsm (by first | rfl | simp)
   have Htn:=hid htorn;clear htorn;by_cases hst:keep<=(k:Int)
   · by_cases hkk:(k:Int)=keep
     · have hq:((k:Int)==keep)=true:=by simpa using hkk
       have Hkk:=hid hkk;clear hkk;cases tears with
       | false=>
        have HF:Hid (lossF s keep torn=foldK s k):=loss_stop s keep torn k HOp.out hst HK.out Htn.out;have L5:Hid (Left (w.alloc (.cells #[.int .i64 keep,.int .i64 torn] 81)).heap.size EK (wr.alloc (.cells #[vFn kd,.string nm,.string to,.slice dA dl dc,.bool false] 239)) lb (foldK s k)):=L2.out.on (bel1 _ _);have B5:Hid (Below (w.alloc (.cells #[.int .i64 keep,.int .i64 torn] 81)).heap.size (w.alloc (.cells #[.int .i64 keep,.int .i64 torn] 81)) (wr.alloc (.cells #[vFn kd,.string nm,.string to,.slice dA dl dc,.bool false] 239))):=B2.out.trans ((bel1 wr _).mono B2.out.size);have FF:=Classical.choose_spec L5.out;have F5:Hid (FM (wr.alloc (.cells #[vFn kd,.string nm,.string to,.slice dA dl dc,.bool false] 239)) lb (Classical.choose L5.out)):=FF.1;clear FF;go_wp2_with fail
        refine (mapsClone_any lb (Classical.choose L5.out) _ F5.out).mono ?_;rintro e w6 ⟨rfl,hf6,hb6,hz6⟩;have F6:=hid hf6;have B6:=hid hb6;have C6:Hid (IsB w6 p 136 (vD (.map (some kb)) (.map (some nb)) (.slice (some ⟨g,0,none⟩) L.length c) s.dn s.f)):=((HD.out.on B5.out).on hb6).dev.cells;have y0:w6.cell? ⟨p,0,none⟩=some (.map (some kb)):=(C6.out.cell 0).trans rfl;have y1:w6.cell? ⟨p,1,none⟩=some (.map (some nb)):=(C6.out.cell 1).trans rfl;have y2:w6.cell? ⟨p,2,none⟩=some (.slice (some ⟨g,0,none⟩) L.length c):=(C6.out.cell 2).trans rfl;have z0:w6.frozen? ⟨p,0,none⟩=false:=C6.out.frozen 0;have z1:w6.frozen? ⟨p,1,none⟩=false:=C6.out.frozen 1;have z2:w6.frozen? ⟨p,2,none⟩=false:=C6.out.frozen 2;clear hf6 hb6 hz6;go_wp2_with fail
        go_end0;rw [decideS];have hsm:=H.out.ok.loss keep torn;rw [HF.out] at hsm |-; exact dev_renew H.out (bel1 _ _) L5.out B5.out F6.out B6.out hsm (by first | rfl | simp)
       | true=>
        have htn:torn<0:=by
         have:=Htn.out;rw [Hkk.out] at this;simp at this;omega
        have HF:Hid (lossF s keep torn=foldK s k):=loss_stop s keep torn k HOp.out hst HK.out Htn.out;have L5:Hid (Left (w.alloc (.cells #[.int .i64 keep,.int .i64 torn] 81)).heap.size EK (wr.alloc (.cells #[vFn kd,.string nm,.string to,.slice dA dl dc,.bool true] 239)) lb (foldK s k)):=L2.out.on (bel1 _ _);have B5:Hid (Below (w.alloc (.cells #[.int .i64 keep,.int .i64 torn] 81)).heap.size (w.alloc (.cells #[.int .i64 keep,.int .i64 torn] 81)) (wr.alloc (.cells #[vFn kd,.string nm,.string to,.slice dA dl dc,.bool true] 239))):=B2.out.trans ((bel1 wr _).mono B2.out.size);have FF:=Classical.choose_spec L5.out;have F5:Hid (FM (wr.alloc (.cells #[vFn kd,.string nm,.string to,.slice dA dl dc,.bool true] 239)) lb (Classical.choose L5.out)):=FF.1;clear FF;go_wp2_with fail
        refine (mapsClone_any lb (Classical.choose L5.out) _ F5.out).mono ?_;rintro e w6 ⟨rfl,hf6,hb6,hz6⟩;have F6:=hid hf6;have B6:=hid hb6;have C6:Hid (IsB w6 p 136 (vD (.map (some kb)) (.map (some nb)) (.slice (some ⟨g,0,none⟩) L.length c) s.dn s.f)):=((HD.out.on B5.out).on hb6).dev.cells;have y0:w6.cell? ⟨p,0,none⟩=some (.map (some kb)):=(C6.out.cell 0).trans rfl;have y1:w6.cell? ⟨p,1,none⟩=some (.map (some nb)):=(C6.out.cell 1).trans rfl;have y2:w6.cell? ⟨p,2,none⟩=some (.slice (some ⟨g,0,none⟩) L.length c):=(C6.out.cell 2).trans rfl;have z0:w6.frozen? ⟨p,0,none⟩=false:=C6.out.frozen 0;have z1:w6.frozen? ⟨p,1,none⟩=false:=C6.out.frozen 1;have z2:w6.frozen? ⟨p,2,none⟩=false:=C6.out.frozen 2;clear hf6 hb6 hz6;go_wp2_with fail
        go_end0;rw [decideS];have hsm:=H.out.ok.loss keep torn;rw [HF.out] at hsm |-; exact dev_renew H.out (bel1 _ _) L5.out B5.out F6.out B6.out hsm (by first | rfl | simp)
     have hq:((k:Int)==keep)=false:=by simpa using hkk
     clear hkk;have HF:Hid (lossF s keep torn=foldK s k):=loss_stop s keep torn k HOp.out hst HK.out Htn.out;have L5:Hid (Left (w.alloc (.cells #[.int .i64 keep,.int .i64 torn] 81)).heap.size EK (wr.alloc (.cells #[vFn kd,.string nm,.string to,.slice dA dl dc,.bool tears] 239)) lb (foldK s k)):=L2.out.on (bel1 _ _);have B5:Hid (Below (w.alloc (.cells #[.int .i64 keep,.int .i64 torn] 81)).heap.size (w.alloc (.cells #[.int .i64 keep,.int .i64 torn] 81)) (wr.alloc (.cells #[vFn kd,.string nm,.string to,.slice dA dl dc,.bool tears] 239))):=B2.out.trans ((bel1 wr _).mono B2.out.size);have FF:=Classical.choose_spec L5.out;have F5:Hid (FM (wr.alloc (.cells #[vFn kd,.string nm,.string to,.slice dA dl dc,.bool tears] 239)) lb (Classical.choose L5.out)):=FF.1;clear FF;go_wp2_with fail
     refine (mapsClone_any lb (Classical.choose L5.out) _ F5.out).mono ?_;rintro e w6 ⟨rfl,hf6,hb6,hz6⟩;have F6:=hid hf6;have B6:=hid hb6;have C6:Hid (IsB w6 p 136 (vD (.map (some kb)) (.map (some nb)) (.slice (some ⟨g,0,none⟩) L.length c) s.dn s.f)):=((HD.out.on B5.out).on hb6).dev.cells;have y0:w6.cell? ⟨p,0,none⟩=some (.map (some kb)):=(C6.out.cell 0).trans rfl;have y1:w6.cell? ⟨p,1,none⟩=some (.map (some nb)):=(C6.out.cell 1).trans rfl;have y2:w6.cell? ⟨p,2,none⟩=some (.slice (some ⟨g,0,none⟩) L.length c):=(C6.out.cell 2).trans rfl;have z0:w6.frozen? ⟨p,0,none⟩=false:=C6.out.frozen 0;have z1:w6.frozen? ⟨p,1,none⟩=false:=C6.out.frozen 1;have z2:w6.frozen? ⟨p,2,none⟩=false:=C6.out.frozen 2;clear hf6 hb6 hz6;go_wp2_with fail
     go_end0;rw [decideS];have hsm:=H.out.ok.loss keep torn;rw [HF.out] at hsm |-; exact dev_renew H.out (bel1 _ _) L5.out B5.out F6.out B6.out hsm (by first | rfl | simp)
   have hq:((k:Int)==keep)=false:=by rw [beq_eq_false_iff_ne];omega
   have hst':(k:Int)<keep:=by omega
   have L3:Hid (Left (w.alloc (.cells #[.int .i64 keep,.int .i64 torn] 81)).heap.size EK (wr.alloc (.cells #[vFn kd,.string nm,.string to,.slice dA dl dc,.bool tears] 239)) lb (foldK s k)):=L2.out.on (bel1 _ _);have R3:Hid (RB (wr.alloc (.cells #[vFn kd,.string nm,.string to,.slice dA dl dc,.bool tears] 239)) ⟨dA,dl,dc⟩ (bs)):=HRB.out.on (bel1 _ _);have hcf:=call_kd kd;go_wp2_with fail
   clear hcf;refine (L3.out.op (by simp;omega) (vFn kd) ⟨kd,nm,to,bs,tears⟩ ⟨dA,dl,dc⟩ HN.out.1 HN.out.2.1 R3.out (by have:=HLen.out nm;have:(bs).length<=4194304:=hbl;simp only;omega)).mono ?_;rintro e w5 ⟨rfl,hl5,hb5⟩;have L5:=hid hl5;have B5:Hid (Below (w.alloc (.cells #[.int .i64 keep,.int .i64 torn] 81)).heap.size (w.alloc (.cells #[.int .i64 keep,.int .i64 torn] 81)) w5):=(B2.out.trans ((bel1 wr _).mono B2.out.size)).trans hb5;have q0':w5.cell? ⟨w.heap.size,0,none⟩=some (.int .i64 keep):=(B5.out.cell (p:=⟨w.heap.size,0,none⟩) (by simp)).trans (new_cell _ _ _ _ rfl 0);clear hl5 hb5 q0 q1 c0 c1 c2 c3 c4;go_wp2_with fail
   go_roundw
   case rel=>exact ⟨k+1,by omega,by go_num,.inr (by omega),by rw [foldK_succ s HOp.out];exact L5.out,B5.out⟩
   simp [intOf];omega
 obtain rfl:k=L.length:=by omega
 have HF:Hid (lossF s keep torn=foldK s L.length):=by
  rw [Hid,HO.out,foldK_all];exact loss_all s keep torn (by rw [<- HO.out];rcases HK.out with h1 | h1<;>omega)
 have FF:=Classical.choose_spec L2.out;have F5:Hid (FM wr lb (Classical.choose L2.out)):=FF.1;clear FF;go_wp2_with fail
 refine (mapsClone_any lb (Classical.choose L2.out) _ F5.out).mono ?_;rintro e w6 ⟨rfl,hf6,hb6,hz6⟩;have F6:=hid hf6;have B6:=hid hb6;have C6:Hid (IsB w6 p 136 (vD (.map (some kb)) (.map (some nb)) (.slice (some ⟨g,0,none⟩) L.length c) s.dn s.f)):=((HD.out.on B2.out).on hb6).dev.cells;have y0:w6.cell? ⟨p,0,none⟩=some (.map (some kb)):=(C6.out.cell 0).trans rfl;have y1:w6.cell? ⟨p,1,none⟩=some (.map (some nb)):=(C6.out.cell 1).trans rfl;have y2:w6.cell? ⟨p,2,none⟩=some (.slice (some ⟨g,0,none⟩) L.length c):=(C6.out.cell 2).trans rfl;have z0:w6.frozen? ⟨p,0,none⟩=false:=C6.out.frozen 0;have z1:w6.frozen? ⟨p,1,none⟩=false:=C6.out.frozen 1;have z2:w6.frozen? ⟨p,2,none⟩=false:=C6.out.frozen 2;clear hf6 hb6 hz6;go_wp2_with fail
 go_end0;rw [decideS];have hsm:=H.out.ok.loss keep torn;rw [HF.out] at hsm |-; exact dev_renew H.out (bel1 _ _) L2.out B2.out F6.out B6.out hsm (by first | rfl | simp)
def loseS (s:St) (keep torn:Int):St:=decideS s.cut keep torn
def restartS (s:St):St:=if s.dn then { decideS s 0 (-1) with dn:=false } else s
theorem Step.cell_after {w w1 w':World} {p:Nat} {r r1:Rp} (h:Step w w1 p r r1) (hg:w1.grownBy w' (some p)):Step w w' p r r1:=
 ⟨Ch.then h.ch (Ch.ones (Below.refl _ _) hg (.inl rfl)),h.own,h.rooms,h.reads⟩
theorem Step.cell_ahead {w w1 w':World} {p:Nat} {r r1:Rp} (hg:w.grownBy w1 (some p)) (h:Step w1 w' p r r1):Step w w' p r r1:=
 ⟨Ch.then (Ch.ones (Below.refl _ _) hg (.inl rfl)) h.ch,fun i hi=>(h.own i hi).imp id (fun hh=>zD hg.size hh),h.rooms.low hg.size,fun d hd=>(h.reads d hd).imp id (fun hf=>hf.low hg.size)⟩
theorem DV.cut34 {w:World} {p:Nat} {r:Rp} {s:St} (h:DV w p r s):DV ((w.setCell ⟨p,3,none⟩ (.bool true)).setCell ⟨p,4,none⟩ (.int .i64 0)) p r s.cut/\w.grownBy ((w.setCell ⟨p,3,none⟩ (.bool true)).setCell ⟨p,4,none⟩ (.int .i64 0)) (some p):=by
 have hg:w.grownBy ((w.setCell ⟨p,3,none⟩ (.bool true)).setCell ⟨p,4,none⟩ (.int .i64 0)) (some p):=g_trans (g_set (p:=⟨p,3,none⟩) (g_refl _ _) (.inl rfl) _) (g_set (p:=⟨p,4,none⟩) (g_refl _ _) (.inl rfl) _);exact ⟨⟨h.dev.cell hg ((h.dev.cells.set_ 3 (.bool true)).set_ 4 (.int .i64 0)),h.ok.cut⟩,hg⟩
theorem Lose_any (p:Nat) (r:Rp) (s:St) (keep torn:Int) (w:World) (h:DV w p r s) (hL:s.ops.length<=1000000) (ht:torn<=9223372036854775807):Calls Tryz.prog 51 #[.pointer (some ⟨p,0,none⟩),.agg #[.int .i64 keep,.int .i64 torn]] w (Goes p r (loseS s keep torn) (.tuple #[]) w):=by
 have H:=hid h;have hplt:=h.dev.cells.lt;have k3:w.cell? ⟨p,3,none⟩=some (.bool s.dn):=(h.dev.cells.cell 3).trans rfl;have k4:w.cell? ⟨p,4,none⟩=some (.int .i64 s.f):=(h.dev.cells.cell 4).trans rfl;have f3:w.frozen? ⟨p,3,none⟩=false:=h.dev.cells.frozen 3;have f4:w.frozen? ⟨p,4,none⟩=false:=h.dev.cells.frozen 4;have hne:p≠w.heap.size:=by omega
 have hne2:w.heap.size≠p:=by omega
 clear h;go_enter Tryz.func51,Tryz.ntmps51;go_wp2_with fail
 refine (decide_any p r s.cut keep torn _ (H.out.cut34.1.on (bel1 _ _)) hL ht).mono ?_;rintro e w1 ⟨rfl,r',hd,hs⟩;have D1:=hid hd;have S1:=hid hs;clear hd hs;go_wp2_with fail
 go_end0;exact ⟨rfl,r',D1.out,Step.cell_ahead H.out.cut34.2 (Step.after (bel1 _ _) S1.out)⟩
theorem Ok.dn {s:St} (h:Ok s) (b:Bool):Ok { s with dn:=b }:=⟨h.f0,h.f1,h.pre,h.ops⟩
theorem Restart_any (p:Nat) (r:Rp) (s:St) (w:World) (h:DV w p r s) (hL:s.ops.length<=1000000):Calls Tryz.prog 52 #[.pointer (some ⟨p,0,none⟩)] w (Goes p r (restartS s) (.tuple #[]) w):=by
 have H:=hid h;have k3:w.cell? ⟨p,3,none⟩=some (.bool s.dn):=(h.dev.cells.cell 3).trans rfl;clear h;cases hd:s.dn with
 | false=>
  rw [hd] at k3;have E:Hid (restartS s=s):=by simp [Hid,restartS,hd]
  clear hd;go_enter Tryz.func52,Tryz.ntmps52;go_wp2_with fail
  go_end0;rw [E.out];exact ⟨rfl,r,H.out,Step.same (Below.refl _ _)⟩
 | true=>
  rw [hd] at k3;have E:Hid (restartS s={ decideS s 0 (-1) with dn:=false }):=by simp [Hid,restartS,hd]
  clear hd;go_enter Tryz.func52,Tryz.ntmps52;go_wp2_with fail
  refine (decide_any p r s 0 (-1) _ H.out hL (by omega)).mono ?_;rintro e w1 ⟨rfl,r',hd,hs⟩;have D1:=hid hd;have S1:=hid hs;have i3:w1.cell? ⟨p,3,none⟩=some (.bool (decideS s 0 (-1)).dn):=(hd.dev.cells.cell 3).trans rfl;have j3:w1.frozen? ⟨p,3,none⟩=false:=hd.dev.cells.frozen 3;clear hd hs;go_wp2_with fail
  go_end0;rw [E.out];have hg:w1.grownBy (w1.setCell ⟨p,3,none⟩ (.bool false)) (some p):=g_set (p:=⟨p,3,none⟩) (g_refl _ _) (.inl rfl) _;exact ⟨rfl,r',⟨D1.out.dev.cell hg (D1.out.dev.cells.set_ 3 (.bool false)),D1.out.ok.dn false⟩,Step.cell_after S1.out hg⟩

theorem conv_str {w:World} {A:Option Addr} {bs:List UInt8} (h:SB w A bs) (c:Nat):(convert 34 9 (.slice A bs.length c)).run Tryz.prog w= .ok (.string ⟨bs.toArray⟩) w:=by
 cases A with
 | none=>
  obtain rfl:bs=[]:=List.eq_nil_of_length_eq_zero (h.1 rfl);exact Lib.run_convert_nil_bytes w 34 9 5 c Tryz.underlying34 Tryz.underlying5 Tryz.underlying9
 | some ad=>
  exact run_convert_bytes_back w 34 9 5 ad c bs Tryz.underlying34 Tryz.underlying5 Tryz.underlying9 (fun j hj=>h.2 ad rfl j _ (by rw [List.getElem?_map,zB hj];rfl))
theorem conv_rb {w:World} {d:BD} {bs:List UInt8} (h:RB w d bs):(convert 34 9 (.slice d.A d.len d.cap)).run Tryz.prog w= .ok (.string ⟨bs.toArray⟩) w:=by
 have:=conv_str h.src d.cap;rwa [h.1] at this
theorem req_ok {s:St} {n:Nat} {o:POp} (hg:gate s n o=0) (hf:s.f=0):reqE s n o=0/\reqS s n o={ s with ops:=s.ops++[o] }:=by
 simp [reqE,reqS,hg,hf,St.did,burnD,burnF]
theorem gate_create {s:St} {n:Nat} {nm:ByteArray} {bs:List UInt8} (hd:s.dn=false) (hn:nameB nm=true) (hl:bs.length<=4194304) (hc:(s.now nm).isSome=true∨n<256):gate s n ⟨.create,nm,ByteArray.empty,bs,true⟩=0:=by
 simp only [gate,hd,hn];rw [if_neg (by simp),if_pos trivial,if_neg];rintro (h | ⟨h1,h2⟩)
 · omega
 rcases hc with h3 | h3
 · rw [h1] at h3;cases h3
 omega
theorem gate_add {s:St} {n:Nat} {nm:ByteArray} {bs v:List UInt8} (hd:s.dn=false) (hn:nameB nm=true) (hv:s.now nm=some v) (hl:v.length+bs.length<=4194304):gate s n ⟨.add,nm,ByteArray.empty,bs,true⟩=0:=by
 simp only [gate,hd,hn,hv];rw [if_neg (by simp),if_pos trivial,if_pos (by simp),if_neg];simp only [Option.getD_some];omega
theorem readE_ok {s:St} {nm:ByteArray} {v:List UInt8} (hd:s.dn=false) (hn:nameB nm=true) (hv:s.now nm=some v):readE s nm=0/\readB s nm=v:=by
 have:readE s nm=0:=by simp [readE,checkP,hd,hn,hv]
 exact ⟨this,by rw [readB,if_pos this,hv];rfl⟩
end
section
open Go.RowKit
theorem perm_erase {α:Type}:∀ (l:List α) (k:Nat) (o:α),l[k]? =some o->l.Perm (o::l.eraseIdx k)
 | [],_,_,h=>by simp at h
 | x::l,0,o,h=>by
  simp at h;subst h;simp
 | x::l,k+1,o,h=>by
  rw [List.getElem?_cons_succ] at h;rw [List.eraseIdx_cons_succ];exact ((perm_erase l k o h).cons x).trans (List.Perm.swap _ _ _)
theorem erase_set {α:Type}:∀ (l:List α) (k:Nat) (o:α),(l.set k o).eraseIdx k=l.eraseIdx k
 | [],_,_=>rfl
 | _::_,0,_=>rfl
 | x::l,k+1,o=>by rw [List.set_cons_succ,List.eraseIdx_cons_succ,List.eraseIdx_cons_succ,erase_set l k o]
structure Ob where
 own:Nat->Prop
 rd:Nat->Prop
 holds:World->Prop
 stable:∀ w w':World,holds w->(w'.os=w.os/\w'.tape=w.tape/\w'.output=w.output/\w.heap.size<=w'.heap.size)->(∀ i,own i∨rd i->w'.heap[i]? =w.heap[i]?)->holds w'
def Apart (x y:Ob):Prop:=(∀ i,x.own i->¬ y.own i/\¬ y.rd i)/\∀ i,y.own i->¬ x.rd i
theorem Apart.symm {x y:Ob} (h:Apart x y):Apart y x:=⟨fun i hi=>⟨fun hx=>(h.1 i hx).1 hi,h.2 i hi⟩,fun i hi=>(h.1 i hi).2⟩
structure Fr (w w':World) (S S':Nat->Prop):Prop where
 os:w'.os=w.os
 tape:w'.tape=w.tape
 output:w'.output=w.output
 size:w.heap.size<=w'.heap.size
 block:∀ i,i<w.heap.size->¬ S i->w'.heap[i]? =w.heap[i]?
 own:∀ i,S' i->S i∨w.heap.size<=i
theorem Fr.of_below {w w':World} (h:Below w.heap.size w w') (S:Nat->Prop):Fr w w' S S:=⟨h.os,h.tape,h.output,h.size,fun i hi _=>h.block i hi,fun _ h=> .inl h⟩
theorem Fr.new {w w':World} (h:Below w.heap.size w w') {S S':Nat->Prop} (hs:∀ i,S' i->S i∨w.heap.size<=i):Fr w w' S S':=⟨h.os,h.tape,h.output,h.size,fun i hi _=>h.block i hi,hs⟩
theorem Fr.trans {w w1 w2:World} {S S1 S2:Nat->Prop} (h:Fr w w1 S S1) (k:Fr w1 w2 S1 S2):Fr w w2 S S2:=
 ⟨k.os.trans h.os,k.tape.trans h.tape,k.output.trans h.output,zD h.size k.size,fun i hi hn=>(k.block i (zC hi h.size) (fun h1=>by
  rcases h.own i h1 with h2 | h2
  · exact hn h2
  · omega)).trans (h.block i hi hn),fun i hi=>by
  rcases k.own i hi with h1 | h1
  · exact h.own i h1
  exact .inr (zD h.size h1)⟩
theorem Fr.grown {w w':World} {g:Nat} (h:w.grownBy w' (some g)) {S S':Nat->Prop} (hg:S g) (hs:∀ i,S' i->S i∨w.heap.size<=i):Fr w w' S S':=
 ⟨h.os,h.tape,h.output,h.size,fun i hi hn=>h.block i hi (fun e=>hn (by injection e with e;rw [e];exact hg)),hs⟩
theorem Fr.below {w w':World} {S S':Nat->Prop} {b:Nat} (h:Fr w w' S S') (hb:∀ i,S i->b<=i) (h0:b<=w.heap.size):Below b w w':=
 ⟨h.os,h.tape,h.output,h.size,fun i hi=>h.block i (by omega) (fun hs=>by have:=hb i hs;omega)⟩
structure Sep (b:Nat) (w:World) (l:List Ob):Prop where
 base:b<=w.heap.size
 holds:∀ o∈l,o.holds w
 own:∀ o∈l,∀ i,o.own i->b<=i/\i<w.heap.size
 rd:∀ o∈l,∀ i,o.rd i->i<w.heap.size
 apart:l.Pairwise Apart
section
variable {b:Nat} {w w':World} {o o' x y:Ob} {l l':List Ob}
theorem Sep.perm (h:Sep b w l) (hp:l'.Perm l):Sep b w l':=
 ⟨h.base,fun o ho=>h.holds o (hp.mem_iff.1 ho),fun o ho=>h.own o (hp.mem_iff.1 ho),fun o ho=>h.rd o (hp.mem_iff.1 ho),(hp.pairwise_iff (fun h=>h.symm)).2 h.apart⟩
theorem Sep.sub (h:Sep b w l) (hs:l'.Sublist l):Sep b w l':=
 ⟨h.base,fun o ho=>h.holds o (hs.subset ho),fun o ho=>h.own o (hs.subset ho),fun o ho=>h.rd o (hs.subset ho),h.apart.sublist hs⟩
theorem Sep.tail (h:Sep b w (o::l)):Sep b w l:=h.sub (List.sublist_cons_self _ _)
theorem Sep.swap (h:Sep b w (x::y::l)):Sep b w (y::x::l):=h.perm (List.Perm.swap _ _ _)
theorem Sep.head (h:Sep b w (o::l)):o.holds w:=h.holds o (by simp)
theorem Sep.nil (w:World) (h:b<=w.heap.size):Sep b w []:=⟨h,by simp,by simp,by simp,List.Pairwise.nil⟩
theorem Sep.step (h:Sep b w (o::l)) (hf:Fr w w' o.own o'.own) (hr:∀ i,o'.rd i->o.own i∨o.rd i∨w.heap.size<=i) (hh:o'.holds w') (hlt:∀ i,o'.own i∨o'.rd i->i<w'.heap.size):Sep b w' (o'::l)/\Below b w w':=by
 have hown:=h.own o (by simp);obtain ⟨ha,hp⟩:=List.pairwise_cons.1 h.apart;have hb:Below b w w':=hf.below (fun i hi=>(hown i hi).1) h.base;refine ⟨⟨zD h.base hf.size,fun y hy=>?_,fun y hy i hi=>?_,fun y hy i hi=>?_,List.pairwise_cons.2 ⟨fun y hy=>?_,hp⟩⟩,hb⟩
 · rcases List.mem_cons.1 hy with rfl | hy
   · exact hh
   refine y.stable w w' (h.holds y (by simp [hy])) ⟨hf.os,hf.tape,hf.output,hf.size⟩ (fun i hi=>?_);refine hf.block i ?_ (fun ho=>?_)
   · rcases hi with hi | hi
     · exact (h.own y (by simp [hy]) i hi).2
     exact h.rd y (by simp [hy]) i hi
   have:=(ha y hy).1 i ho;rcases hi with hi | hi
   · exact this.1 hi
   exact this.2 hi
 · rcases List.mem_cons.1 hy with rfl | hy
   · refine ⟨?_,hlt i (.inl hi)⟩;rcases hf.own i hi with h1 | h1
     · exact (hown i h1).1
     have:=h.base;omega
   have:=h.own y (by simp [hy]) i hi;exact ⟨this.1,zC this.2 hf.size⟩
 · rcases List.mem_cons.1 hy with rfl | hy
   · exact hlt i (.inr hi)
   exact zC (h.rd y (by simp [hy]) i hi) hf.size
 have hyo:=h.own y (by simp [hy]);have hyr:=h.rd y (by simp [hy]);refine ⟨fun i hi=>?_,fun i hi hi'=>?_⟩
 · rcases hf.own i hi with h1 | h1
   · exact (ha y hy).1 i h1
   exact ⟨fun h2=>by have:=(hyo i h2).2;omega,fun h2=>by have:=hyr i h2;omega⟩
 rcases hr i hi' with h1 | h1 | h1
 · exact ((ha y hy).1 i h1).1 hi
 · exact (ha y hy).2 i hi h1
 have:=(hyo i hi).2;omega
theorem Sep.add (h:Sep b w l) (hb:Below w.heap.size w w') (hh:o'.holds w') (ho:∀ i,o'.own i->w.heap.size<=i/\i<w'.heap.size) (hr:∀ i,o'.rd i->i<w'.heap.size) (hn:∀ i,o'.rd i->i<w.heap.size->∀ y∈l,¬ y.own i):Sep b w' (o'::l)/\Below b w w':=by
 refine ⟨⟨zD h.base hb.size,fun y hy=>?_,fun y hy i hi=>?_,fun y hy i hi=>?_,List.pairwise_cons.2 ⟨fun y hy=>⟨fun i hi=>⟨fun h2=>?_,fun h2=>?_⟩,fun i hi hi'=>?_⟩,h.apart⟩⟩,hb.mono h.base⟩
 · rcases List.mem_cons.1 hy with rfl | hy
   · exact hh
   refine y.stable w w' (h.holds y hy) ⟨hb.os,hb.tape,hb.output,hb.size⟩ (fun i hi=>hb.block i ?_);rcases hi with hi | hi
   · exact (h.own y hy i hi).2
   exact h.rd y hy i hi
 · rcases List.mem_cons.1 hy with rfl | hy
   · have:=ho i hi;have:=h.base;omega
   have:=h.own y hy i hi;have:=hb.size;omega
 · rcases List.mem_cons.1 hy with rfl | hy
   · exact hr i hi
   have:=h.rd y hy i hi;have:=hb.size;omega
 · have:=(ho i hi).1;have:=(h.own y hy i h2).2;omega
 · have:=(ho i hi).1;have:=h.rd y hy i h2;omega
 by_cases hlt:i<w.heap.size
 · exact hn i hi' hlt y hy hi
 have:=(h.own y hy i hi).2;omega
theorem Sep.on (h:Sep b w l) (hb:Below w.heap.size w w'):Sep b w' l:=
 ⟨zD h.base hb.size,fun y hy=>y.stable w w' (h.holds y hy) ⟨hb.os,hb.tape,hb.output,hb.size⟩ (fun i hi=>hb.block i (by
  rcases hi with hi | hi
  · exact (h.own y hy i hi).2
  exact h.rd y hy i hi)),fun y hy i hi=>⟨(h.own y hy i hi).1,zC (h.own y hy i hi).2 hb.size⟩,fun y hy i hi=>zC (h.rd y hy i hi) hb.size,h.apart⟩
theorem Sep.view (h:Sep b w (o::l)) (hh:o'.holds w) (ho:∀ i,¬ o'.own i) (hr:∀ i,o'.rd i->o.rd i) (hx:∀ i,o.own i->¬ o.rd i):Sep b w (o'::o::l):=
 ⟨h.base,fun y hy=>by
  rcases List.mem_cons.1 hy with rfl | hy
  · exact hh
  · exact h.holds y hy,fun y hy i hi=>by
  rcases List.mem_cons.1 hy with rfl | hy
  · exact absurd hi (ho i)
  · exact h.own y hy i hi,fun y hy i hi=>by
  rcases List.mem_cons.1 hy with rfl | hy
  · exact h.rd o (by simp) i (hr i hi)
  exact h.rd y hy i hi,List.pairwise_cons.2 ⟨fun y hy=>⟨fun i hi=>absurd hi (ho i),fun i hi hi'=>by
  rcases List.mem_cons.1 hy with rfl | hy
  · exact hx i hi (hr i hi')
  exact ((List.pairwise_cons.1 h.apart).1 y hy).2 i hi (hr i hi')⟩,h.apart⟩⟩
theorem Sep.pull (h:Sep b w l) {k:Nat} (hk:l[k]? =some o):Sep b w (o::l.eraseIdx k):=h.perm (perm_erase l k o hk).symm
theorem Sep.stepAt (h:Sep b w l) (k:Nat) (hk:l[k]? =some o) (hf:Fr w w' o.own o'.own) (hr:∀ i,o'.rd i->o.own i∨o.rd i∨w.heap.size<=i) (hh:o'.holds w') (hlt:∀ i,o'.own i∨o'.rd i->i<w'.heap.size):Sep b w' (l.set k o')/\Below b w w':=by
 obtain ⟨h1,h2⟩:=(h.pull hk).step hf hr hh hlt;refine ⟨h1.perm ?_,h2⟩;have hl:=(List.getElem?_eq_some_iff.1 hk).1;have h3:=perm_erase (l.set k o') k o' (by rw [List.getElem?_set_self hl]);rw [erase_set] at h3;exact h3
theorem Sep.get (h:Sep b w l) {k:Nat} (hk:l[k]? =some o):o.holds w:=h.holds o (zA hk)
theorem Sep.own_ge (h:Sep b w l) {k:Nat} (hk:l[k]? =some o) {i:Nat} (hi:o.own i):b<=i/\i<w.heap.size:=h.own o (zA hk) i hi
end
def cellOb (g:Nat) (t:TypeId) (cs:Array Value):Ob where
 own:=fun i=>i=g
 rd:=fun _=>False
 holds:=fun w=>IsB w g t cs
 stable:=fun w w' h _ hk=>(hk g (.inl rfl)).trans h
theorem Sep.cell {b:Nat} {w:World} {l:List Ob} (h:Sep b w l) {k g:Nat} {t:TypeId} {cs:Array Value} (hk:l[k]? =some (cellOb g t cs)):IsB w g t cs:=h.get hk
theorem Sep.setAt {b:Nat} {w:World} {l:List Ob} (h:Sep b w l) (k:Nat) {g:Nat} {t:TypeId} {cs:Array Value} (hk:l[k]? =some (cellOb g t cs)) (j:Nat) (u:Value):Sep b (w.setCell ⟨g,j,none⟩ u) (l.set k (cellOb g t (cs.setIfInBounds j u)))/\Below b w (w.setCell ⟨g,j,none⟩ u):=by
 have hc:=h.cell hk;have hg:w.grownBy (w.setCell ⟨g,j,none⟩ u) (some g):=g_set (p:=⟨g,j,none⟩) (g_refl _ _) (.inl rfl) _;refine h.stepAt k hk (Fr.grown hg rfl (fun i hi=> .inl hi)) (fun i hi=>hi.elim) (hc.set_ j u) (fun i hi=>?_);rcases hi with hi | hi
 · have:=hc.lt;have e:i=g:=hi;rw [e];simpa [World.setCell] using this
 exact hi.elim
theorem Sep.newCell {b:Nat} {w:World} {l:List Ob} (h:Sep b w l) (t:TypeId) (cs:Array Value):Sep b (w.alloc (.cells cs t)) (cellOb w.heap.size t cs::l)/\Below b w (w.alloc (.cells cs t)):=
 h.add ((Below.refl _ _).alloc (Nat.le_refl _) _) (IsB.new w t cs) (fun i hi=>by have e:i=w.heap.size:=hi;simp [e]) (fun i hi=>hi.elim) (fun i hi=>hi.elim)
end
section
open Go.RowKit Go.MapKept Go.ChangeMaps
def devOwn (p:Nat) (r:Rp) (i:Nat):Prop:=r.own p i∨∃ q∈rooms r.EN,q.1=i
def devRd (r:Rp) (i:Nat):Prop:=∃ d,r.reads d/\blk d=some i
def devOb (p:Nat) (r:Rp) (s:St):Ob where
 own:=devOwn p r
 rd:=devRd r
 holds:=fun w=>DV w p r s
 stable:=fun w w' h hs hk=>by
  have hc:Ch w w' (fun i=>¬ (devOwn p r i∨devRd r i)) []:=⟨hs.1,hs.2.1,hs.2.2.1,hs.2.2.2,fun i _ hn _=>hk i (Classical.not_not.1 hn),by simp⟩;exact ⟨h.dev.ch hc (fun i hi=>⟨fun hn=>hn (.inl (.inl hi)),by simp⟩) (fun d hd=>⟨fun g hg hn=>hn (.inr ⟨d,hd,hg⟩),by simp⟩),h.ok⟩
theorem DV.reads_lt {w:World} {p:Nat} {r:Rp} {s:St} (h:DV w p r s) {i:Nat} (hi:devRd r i):i<w.heap.size:=by
 obtain ⟨d,hd,hg⟩:=hi;rcases hd with ⟨e,he,rfl⟩ | ⟨e,he,rfl⟩ | ⟨e,he,rfl⟩
 · exact (h.dev.kept.2.1 e he).lt hg
 · exact (h.dev.now.2.1 e he).lt hg
 exact (h.dev.ops e he).1.lt hg
theorem DV.own_lt {w:World} {p:Nat} {r:Rp} {s:St} (h:DV w p r s) {i:Nat} (hi:devOwn p r i):i<w.heap.size:=by
 rcases hi with hi | ⟨q,hq,rfl⟩
 · rcases hi with rfl | rfl | rfl | e
   · exact h.dev.cells.lt
   · exact h.dev.kept.1.lt
   · exact h.dev.now.1.lt
   obtain ⟨cur,hcur⟩:=row_is h.dev.pend e;exact hcur.lt
 obtain ⟨cur,hcur⟩:=rooms_byte h.dev.now hq;exact hcur.lt
theorem Step.fr {w w':World} {p:Nat} {r r':Rp} (h:Step w w' p r r'):Fr w w' (devOwn p r) (devOwn p r'):=
 ⟨h.ch.os,h.ch.tape,h.ch.output,h.ch.size,fun i hi hn=>h.ch.block i hi (fun ho=>hn (.inl ho)) (fun q hq e=>hn (.inr ⟨q,hq,e⟩)),fun i hi=>by
  rcases hi with hi | ⟨q,hq,rfl⟩
  · rcases h.own i hi with h1 | h1
    · exact .inl (.inl h1)
    exact .inr h1
  rcases h.rooms q hq with h1 | ⟨q0,h1,h2,_⟩
  · exact .inr h1
  exact .inl (.inr ⟨q0,h1,h2⟩)⟩
theorem Step.rds {w w':World} {p:Nat} {r r':Rp} (h:Step w w' p r r'):∀ i,devRd r' i->devOwn p r i∨devRd r i∨w.heap.size<=i:=by
 rintro i ⟨d,hd,hg⟩;rcases h.reads d hd with h1 | h1 | ⟨d0,h1,h2,_⟩ | ⟨q,h1,h2⟩
 · exact h1.elim
 · exact .inr (.inr (h1 i hg))
 · exact .inr (.inl ⟨d0,h1,by rw [h2,hg]⟩)
 rw [hg] at h2;injection h2 with h2;exact .inl (.inr ⟨q,h1,h2.symm⟩)
theorem Sep.dev {b:Nat} {w w':World} {p:Nat} {r r':Rp} {s s':St} {l:List Ob} {k:Nat} (h:Sep b w l) (hk:l[k]? =some (devOb p r s)) (hd:DV w' p r' s') (hs:Step w w' p r r'):Sep b w' (l.set k (devOb p r' s'))/\Below b w w':=
 h.stepAt k hk hs.fr hs.rds hd (fun i hi=>by
  rcases hi with hi | hi
  · exact hd.own_lt hi
  exact hd.reads_lt hi)
def GoesS (b p k:Nat) (s':St) (v:Value) (l:List Ob) (w:World) (e:Ending) (w':World):Prop:=e= .returned v/\∃ r',Sep b w' (l.set k (devOb p r' s'))/\Below b w w'
def ReqS (b p k:Nat) (s:St) (o:POp) (l:List Ob) (w:World) (e:Ending) (w':World):Prop:=∃ n,Cnt s.now n/\GoesS b p k (reqS s n o) (.int .i64 (reqE s n o)) l w e w'
section
variable {b p k:Nat} {r:Rp} {s:St} {w:World} {l:List Ob}
theorem Sep.dv (h:Sep b w l) (hk:l[k]? =some (devOb p r s)):DV w p r s:=h.get hk
theorem goes_S {F:FuncId} {args:Array Value} {s':St} {v:Value} (hc:Calls Tryz.prog F args w (Goes p r s' v w)) (h:Sep b w l) (hk:l[k]? =some (devOb p r s)):Calls Tryz.prog F args w (GoesS b p k s' v l w):=by
 refine hc.mono ?_;rintro e w' ⟨he,r',hd,hs⟩;exact ⟨he,r',h.dev hk hd hs⟩
theorem req_S {F:FuncId} {args:Array Value} {o:POp} (hc:Calls Tryz.prog F args w (ReqPost p r s o w)) (h:Sep b w l) (hk:l[k]? =some (devOb p r s)):Calls Tryz.prog F args w (ReqS b p k s o l w):=by
 refine hc.mono ?_;rintro e w' ⟨n,hn,he,r',hd,hs⟩;exact ⟨n,hn,he,r',h.dev hk hd hs⟩
end
end
end Go.Proofs.YteabgcollokgjaaGreatDoor
