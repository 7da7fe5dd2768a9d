/- The walk of the law RegionsOutlives. -/

